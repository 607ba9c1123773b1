import Derived.Test.YtkkobemhbicjgaaGreatDoorB20
import Derived.Test.YtkkobemhbicjgaaGreatDoorB12
import Derived.Test.YtkkobemhbicjgaaGreatDoorB00
set_option maxRecDepth 100000
set_option maxHeartbeats 8000000
namespace Go.Proofs.YtkkobemhbicjgaaGreatDoor
open Go.RowKit Tryz
inductive Fi where
 | w (s : ByteArray)
 | d
 | n
 | p
 | k
variable {w wr : World} {nd nn : Nat}
def Fi.val : Fi → Value
 | .w s => .iface 200 (.string s)
 | .d => .iface 202 (.agg #[])
 | .n => .iface 205 (.agg #[])
 | .p => .iface 203 (.agg #[])
 | .k => .iface 204 (.agg #[])
def Fi.cells (x : Fi) : List Value := [x.val]
def rz (k : Int) : List Fi :=
 if k = 1 then [.w ⟨#[111, 112, 101, 110]⟩, .d] else if k = 2 then [.w ⟨#[99, 108, 111, 115, 101]⟩, .d] else if k = 3 then [.w ⟨#[108, 111, 99, 107]⟩, .d, .p, .w ⟨#[107, 101, 121]⟩, .k]
 else if k = 4 then [.w ⟨#[117, 110, 108, 111, 99, 107]⟩, .d, .w ⟨#[107, 101, 121]⟩, .k] else if k = 5 then [.w ⟨#[112, 114, 111, 118, 101]⟩, .n] else [.w ⟨#[99, 104, 101, 99, 107]⟩, .d, .p]
theorem hY (k : Int) (h1 : 1 ≤ k) (h6 : k ≤ 6) (w : World) :
 Calls prog 140 #[.int .i64 k] w fun e w' => ∃ (b n : Nat), e = .returned (.slice (some ⟨b, 0, none⟩) n n) ∧ Hid (BI w' 1 (some ⟨b, 0, none⟩) n n ((rz k).flatMap Fi.cells)) ∧ Hid (bW w w') := by
 rcases (show k = 1 ∨ k = 2 ∨ k = 3 ∨ k = 4 ∨ k = 5 ∨ k = 6 by omega) with rfl | rfl | rfl | rfl | rfl | rfl
 all_goals
  go_enter func140, ntmps140
  go_wp2_with fail
  go_ret;refine ⟨_, _, rfl, ?_, (Below.refl _ _).alloc lR _⟩;unfold Hid BI;rw [World.size_alloc];exact Sl.newest rfl rfl (by decide)
theorem gz (k : Int) (h : k < 1 ∨ 6 < k) (w : World) :
 Calls prog 140 #[.int .i64 k] w fun e w' => e = .returned (.slice none 0 0) ∧ w = w' := by
 have q1 : (k == 1) = false := by simpa using by omega
 have q2 : (k == 2) = false := by simpa using by omega
 have q3 : (k == 3) = false := by simpa using by omega
 have q4 : (k == 4) = false := by simpa using by omega
 have q5 : (k == 5) = false := by simpa using by omega
 have q6 : (k == 6) = false := by simpa using by omega
 go_enter func140, ntmps140
 go_wp2_with fail
 go_ret;exact ⟨rfl, rfl⟩
def Rj (nn : Nat) (v : Int) : Bool := decide (0 ≤ v) && decide (v < nn)
theorem lN (An Ad : Option Addr) (nn cn nd cd : Nat) (v : Int) (w : World) (_hnn : nn ≤ 9223372036854775807) :
 Calls prog 168 #[.agg #[.slice An nn cn, .slice Ad nd cd], .int .i64 v] w fun e w' => e = .returned (.bool (Rj nn v)) ∧ bW w w' := by
 have HB := iD ((Below.refl w.heap.size w).alloc lR (.cells #[.slice An nn cn, .slice Ad nd cd] 30));have HE : Hid (Rj nn v = (decide (0 ≤ v) && decide (v < nn))) := rfl;by_cases h0 : 0 ≤ v
 ·have q0 : decide (0 ≤ v) = true := by simpa using h0
  go_enter func168, ntmps168
  go_wp2_with fail
  go_ret;exact ⟨by rw [HE.out, q0]; simp, HB⟩
 ·have q0 : decide (0 ≤ v) = false := by simpa using h0
  go_enter func168, ntmps168
  go_wp2_with fail
  go_ret;exact ⟨by rw [HE.out, q0]; rfl, HB⟩
structure Hs where
 dv : Int
 no : Int
 po : Int
 ke : Int
 b0 : Bool
 b1 : Bool
 b2 : Bool
 b3 : Bool
def LD (nd : Nat) (v : Int) : Bool := decide (v < 0) || decide ((nd : Int) ≤ v)
def Nl (v : Int) : Bool := decide (v ≠ 1) && decide (v ≠ 2)
def Nn (v : Int) : Bool := decide (v < 0) || decide (65536 < v)
def wE (nn nd : Nat) (h : Hs) : Fi → Hs
 | .w _ => h
 | .d => ⟨0, h.no, h.po, h.ke, LD nd h.dv, h.b1, h.b2, h.b3⟩
 | .n => ⟨h.dv, 0, h.po, h.ke, h.b0, !Rj nn h.no, h.b2, h.b3⟩
 | .p => ⟨h.dv, h.no, 0, h.ke, h.b0, h.b1, Nl h.po, h.b3⟩
 | .k => ⟨h.dv, h.no, h.po, 0, h.b0, h.b1, h.b2, Nn h.ke⟩
def vM (nn nd : Nat) (fs : List Fi) (h : Hs) : Hs := fs.foldl (wE nn nd) h
def Hs.step (h : Hs) (kd : Int) : Array Value := #[.int .i64 kd, .int .i64 h.dv, .int .i64 h.no, .int .i64 h.po, .int .i64 h.ke]
def Hs.bad (h : Hs) : Array Value := #[.bool h.b0, .bool h.b1, .bool h.b2, .bool h.b3]
structure NH (w : World) (N : Array Value) (kd : Int) (h : Hs) (wr : World) : Prop where
 b0 : AJ wr w.heap.size 30 N
 b1 : AJ wr (w.heap.size + 1) 43 (h.step kd)
 b2 : AJ wr (w.heap.size + 2) 43 #[.int .i64 0, .int .i64 0, .int .i64 0, .int .i64 0, .int .i64 0]
 b3 : AJ wr (w.heap.size + 3) 178 #[.bool false, .bool false, .bool false, .bool false]
 b4 : AJ wr (w.heap.size + 4) 178 h.bad
 bl : bW w wr
section
variable {w wr wr' : World} {N : Array Value} {kd : Int} {h : Hs}
theorem NH.new (w : World) (N : Array Value) (kd : Int) (h : Hs) : NH w N kd ⟨h.dv, h.no, h.po, h.ke, false, false, false, false⟩ (((((w.alloc (.cells N 30)).alloc (.cells (h.step kd) 43)).alloc (.cells #[.int .i64 0, .int .i64 0, .int .i64 0, .int .i64 0, .int .i64 0] 43)).alloc (.cells #[.bool false, .bool false, .bool false, .bool false] 178)).alloc (.cells #[.bool false, .bool false, .bool false, .bool false] 178)) := by
 have h0 := AJ.new w 30 N;generalize e1 : w.alloc (.cells N 30) = w1 at *;have z1 : w1.heap.size = w.heap.size + 1 := by rw [← e1, World.size_alloc]
 have l1 : Below w.heap.size w w1 := by rw [← e1]; exact (Below.refl _ _).alloc lR _
 have h1 := AJ.new w1 43 (h.step kd);have h0 := h0.alloc (.cells (h.step kd) 43);have l2 := l1.alloc (by omega) (.cells (h.step kd) 43);generalize e2 : w1.alloc (.cells (h.step kd) 43) = w2 at *;have z2 : w2.heap.size = w.heap.size + 2 := by rw [← e2, World.size_alloc, z1]
 have h2 := AJ.new w2 43 #[.int .i64 0, .int .i64 0, .int .i64 0, .int .i64 0, .int .i64 0];have h0 := h0.alloc (.cells #[.int .i64 0, .int .i64 0, .int .i64 0, .int .i64 0, .int .i64 0] 43);have h1 := h1.alloc (.cells #[.int .i64 0, .int .i64 0, .int .i64 0, .int .i64 0, .int .i64 0] 43);have l3 := l2.alloc (by omega) (.cells #[.int .i64 0, .int .i64 0, .int .i64 0, .int .i64 0, .int .i64 0] 43);generalize e3 : w2.alloc (.cells #[.int .i64 0, .int .i64 0, .int .i64 0, .int .i64 0, .int .i64 0] 43) = w3 at *;have z3 : w3.heap.size = w.heap.size + 3 := by rw [← e3, World.size_alloc, z2]
 have h3 := AJ.new w3 178 #[.bool false, .bool false, .bool false, .bool false];have h0 := h0.alloc (.cells #[.bool false, .bool false, .bool false, .bool false] 178);have h1 := h1.alloc (.cells #[.bool false, .bool false, .bool false, .bool false] 178);have h2 := h2.alloc (.cells #[.bool false, .bool false, .bool false, .bool false] 178);have l4 := l3.alloc (by omega) (.cells #[.bool false, .bool false, .bool false, .bool false] 178);generalize e4 : w3.alloc (.cells #[.bool false, .bool false, .bool false, .bool false] 178) = w4 at *;have z4 : w4.heap.size = w.heap.size + 4 := by rw [← e4, World.size_alloc, z3]
 have h4 := AJ.new w4 178 #[.bool false, .bool false, .bool false, .bool false];rw [z1] at h1; rw [z2] at h2; rw [z3] at h3; rw [z4] at h4;exact ⟨h0.alloc _, h1.alloc _, h2.alloc _, h3.alloc _, h4, l4.alloc (by omega) _⟩
theorem NH.later (h0 : NH w N kd h wr) (hb : bW wr wr') : NH w N kd h wr' := ⟨h0.b0.below hb h0.b0.lt, h0.b1.below hb h0.b1.lt, h0.b2.below hb h0.b2.lt, h0.b3.below hb h0.b3.lt, h0.b4.below hb h0.b4.lt, h0.bl.trans (hb.mono h0.bl.size)⟩
theorem NH.put (h0 : NH w N kd h wr) (i j : Nat) (u v : Value) {h' : Hs} (e1 : (h.step kd).setIfInBounds j v = h'.step kd) (e2 : h.bad.setIfInBounds i u = h'.bad) : NH w N kd h' ((wr.setCell ⟨w.heap.size + 4, i, none⟩ u).setCell ⟨w.heap.size + 1, j, none⟩ v) :=
 ⟨(h0.b0.far (p := ⟨w.heap.size + 4, i, none⟩) (by simp) u).far (p := ⟨w.heap.size + 1, j, none⟩) (by simp) v, by rw [← e1]; exact (h0.b1.far (p := ⟨w.heap.size + 4, i, none⟩) (by simp) u).set j v,
  (h0.b2.far (p := ⟨w.heap.size + 4, i, none⟩) (by simp) u).far (p := ⟨w.heap.size + 1, j, none⟩) (by simp) v, (h0.b3.far (p := ⟨w.heap.size + 4, i, none⟩) (by simp) u).far (p := ⟨w.heap.size + 1, j, none⟩) (by simp) v,
  by rw [← e2]; exact (h0.b4.set i u).far (p := ⟨w.heap.size + 1, j, none⟩) (by simp) v, (h0.bl.setCell (by simp) u).setCell (by simp) v⟩
end
def tO (w : World) (x : Nat) (a b c d e : Value) : World := ((((w.setCell ⟨x, 0, none⟩ a).setCell ⟨x, 1, none⟩ b).setCell ⟨x, 2, none⟩ c).setCell ⟨x, 3, none⟩ d).setCell ⟨x, 4, none⟩ e
def ju (w : World) (x : Nat) (a b c d : Value) : World := (((w.setCell ⟨x, 0, none⟩ a).setCell ⟨x, 1, none⟩ b).setCell ⟨x, 2, none⟩ c).setCell ⟨x, 3, none⟩ d
section
variable {w : World} {x g : Nat} {t : TypeId} {cs : Array Value} {a b c d e a' b' c' d' e' : Value}
theorem AJ.far5 (h : AJ w g t cs) (hg : g ≠ x) : AJ (tO w x a b c d e) g t cs := ((((h.far (p := ⟨x, 0, none⟩) hg a).far (p := ⟨x, 1, none⟩) hg b).far (p := ⟨x, 2, none⟩) hg c).far (p := ⟨x, 3, none⟩) hg d).far (p := ⟨x, 4, none⟩) hg e
theorem AJ.far4 (h : AJ w g t cs) (hg : g ≠ x) : AJ (ju w x a b c d) g t cs := (((h.far (p := ⟨x, 0, none⟩) hg a).far (p := ⟨x, 1, none⟩) hg b).far (p := ⟨x, 2, none⟩) hg c).far (p := ⟨x, 3, none⟩) hg d
theorem AJ.all5 (h : AJ w x t #[a', b', c', d', e']) : AJ (tO w x a b c d e) x t #[a, b, c, d, e] := ((((h.set 0 a).set 1 b).set 2 c).set 3 d).set 4 e
theorem AJ.all4 (h : AJ w x t #[a', b', c', d']) : AJ (ju w x a b c d) x t #[a, b, c, d] := (((h.set 0 a).set 1 b).set 2 c).set 3 d
theorem lW {B : Nat} {w0 : World} (h : Below B w0 w) (hx : B ≤ x) : Below B w0 (tO w x a b c d e) := ((((h.setCell (p := ⟨x, 0, none⟩) hx a).setCell (p := ⟨x, 1, none⟩) hx b).setCell (p := ⟨x, 2, none⟩) hx c).setCell (p := ⟨x, 3, none⟩) hx d).setCell (p := ⟨x, 4, none⟩) hx e
theorem lX {B : Nat} {w0 : World} (h : Below B w0 w) (hx : B ≤ x) : Below B w0 (ju w x a b c d) := (((h.setCell (p := ⟨x, 0, none⟩) hx a).setCell (p := ⟨x, 1, none⟩) hx b).setCell (p := ⟨x, 2, none⟩) hx c).setCell (p := ⟨x, 3, none⟩) hx d
end
structure li (w : World) (kd : Int) (h : Hs) (wr : World) : Prop where
 b1 : AJ wr (w.heap.size + 1) 43 (h.step kd)
 b4 : AJ wr (w.heap.size + 4) 178 h.bad
 b2 : AJ wr (w.heap.size + 2) 43 (h.step kd)
 b3 : AJ wr (w.heap.size + 3) 178 #[.bool false, .bool false, .bool false, .bool false]
 bl : bW w wr
theorem li.cells {kd dv no po ke : Int} {g0 g1 g2 g3 : Bool} (h : li w kd ⟨dv, no, po, ke, g0, g1, g2, g3⟩ wr) : (wr.cell? ⟨w.heap.size + 1, 0, none⟩ = some (.int .i64 kd) ∧ wr.cell? ⟨w.heap.size + 1, 1, none⟩ = some (.int .i64 dv) ∧ wr.cell? ⟨w.heap.size + 1, 2, none⟩ = some (.int .i64 no) ∧ wr.cell? ⟨w.heap.size + 1, 3, none⟩ = some (.int .i64 po) ∧ wr.cell? ⟨w.heap.size + 1, 4, none⟩ = some (.int .i64 ke)) ∧ wr.cell? ⟨w.heap.size + 4, 0, none⟩ = some (.bool g0) ∧ wr.cell? ⟨w.heap.size + 4, 1, none⟩ = some (.bool g1) ∧ wr.cell? ⟨w.heap.size + 4, 2, none⟩ = some (.bool g2) ∧ wr.cell? ⟨w.heap.size + 4, 3, none⟩ = some (.bool g3) := ⟨⟨h.b1.cell 0, h.b1.cell 1, h.b1.cell 2, h.b1.cell 3, h.b1.cell 4⟩, h.b4.cell 0, h.b4.cell 1, h.b4.cell 2, h.b4.cell 3⟩
theorem li.drew {kd : Int} {h : Hs} (h0 : li w kd h wr) : li w kd h wr.drew := ⟨h0.b1.below (Below.refl _ _).drew h0.b1.lt, h0.b4.below (Below.refl _ _).drew h0.b4.lt, h0.b2.below (Below.refl _ _).drew h0.b2.lt, h0.b3.below (Below.refl _ _).drew h0.b3.lt, h0.bl.drew⟩
structure cD (w : World) (kd : Int) (h : Hs) (wr : World) : Prop where
 b2 : AJ wr (w.heap.size + 2) 43 (h.step kd)
 b3 : AJ wr (w.heap.size + 3) 178 h.bad
 bl : bW w wr
theorem asD (x : Fi) (W : World) : (Instr.typeAssert x.val 20 202 true).run prog W = .ok (.tuple #[.agg #[], .bool (match x with | .d => true | _ => false)]) W := by cases x <;> kernel_rfl
theorem asN (x : Fi) (W : World) : (Instr.typeAssert x.val 20 205 true).run prog W = .ok (.tuple #[.agg #[], .bool (match x with | .n => true | _ => false)]) W := by cases x <;> kernel_rfl
theorem asP (x : Fi) (W : World) : (Instr.typeAssert x.val 20 203 true).run prog W = .ok (.tuple #[.agg #[], .bool (match x with | .p => true | _ => false)]) W := by cases x <;> kernel_rfl
theorem asK (x : Fi) (W : World) : (Instr.typeAssert x.val 20 204 true).run prog W = .ok (.tuple #[.agg #[], .bool (match x with | .k => true | _ => false)]) W := by cases x <;> kernel_rfl
def HsR (w : World) (N : Array Value) (kd : Int) (fs : List Fi) (h0 : Hs) (nn nd n gk : Nat) (iv : Value) (wr : World) : Prop := ∃ i : Nat, iv = .int .i64 i ∧ i ≤ n ∧ gk = n - i ∧ Hid (NH w N kd (vM nn nd (fs.take i) h0) wr)
theorem jP {fs : List Fi} {h : Hs} {i : Nat} {x : Fi} (hx : fs[i]? = some x) : vM nn nd (fs.take (i + 1)) h = wE nn nd (vM nn nd (fs.take i) h) x := by
 unfold vM;rw [zP hx, List.foldl_append, List.foldl_cons, List.foldl_nil]
theorem gx (An Ad Af : Option Addr) (nn cn nd cd n c : Nat) (fs : List Fi) (kd : Int) (h0 : Hs) (w : World) (Fe : h0.b0 = false) (AV : h0.b1 = false) (AZ : h0.b2 = false) (BX : h0.b3 = false) (hf : BI w 1 Af n c (fs.flatMap Fi.cells)) (Bq : nn ≤ 9223372036854775807) (_hnd : nd ≤ 9223372036854775807) :
 Calls prog 141 #[.agg #[.slice An nn cn, .slice Ad nd cd], .agg (h0.step kd), .slice Af n c] w fun e w' => e = .returned (.tuple #[.agg ((vM nn nd fs h0).step kd), .agg (vM nn nd fs h0).bad]) ∧ bW w w' := by
 have HH := iD (NH.new w #[.slice An nn cn, .slice Ad nd cd] kd h0);have HF := iD hf;have MM := iD (hf.len (fun _ => rfl) (by decide));have EH := hf.le;rw [show (⟨h0.dv, h0.no, h0.po, h0.ke, false, false, false, false⟩ : Hs) = vM nn nd (fs.take 0) h0 from by cases h0; simp only at Fe AV AZ BX; subst Fe AV AZ BX; rfl] at HH;clear hf Fe AV AZ BX;unfold Hs.step at HH;unfold Hs.step
 go_enter func141, ntmps141
 go_upto_region 2 with (fail);generalize World.alloc (World.alloc (World.alloc (World.alloc (World.alloc w _) _) _) _) _ = W at *;go_upto_region 3 with (fail);rw [show w.heap.size + 1 + 1 = w.heap.size + 2 from rfl, show w.heap.size + 2 + 1 = w.heap.size + 3 from rfl, show w.heap.size + 3 + 1 = w.heap.size + 4 from rfl];refine xY [(9, 0), (0, 1), (1, 0), (0, 2), (56, 1), (1, 0)] 13 (n) (HsR w #[.slice An nn cn, .slice Ad nd cd] kd fs h0 nn nd n) (by (try dsimp only [gt]); exact ⟨0, rfl, Nat.zero_le _, rfl, HH⟩) (by kernel_rfl) ?_;intro u1 AX gk wr a hrel ha J1 K1 EB ME;dsimp only [za, Go.Proofs.YtkkobemhbicjgaaGreatDoor.v1, Nat.reduceAdd] at ha;subst ha;clear HH;obtain ⟨i, rfl, hi, rfl, HM⟩ := hrel;by_cases hlt : i < n; rotate_left
 ·have Cw : decide ((i : Int) < (n : Int)) = false := by simp; omega
  have RU : decide (i < n) = false := by simp; omega
  have QI : fs.take i = fs := List.take_of_length_le (by have := MM.out; omega);rw [QI] at HM;clear QI;obtain ⟨h, hh⟩ := eX (vM nn nd fs h0);rw [← hh] at HM;have HQ := iD hh;clear hh;obtain ⟨dv, no, po, ke, g0, g1, g2, g3⟩ := h;have y0 : ∀ j, wr.frozen? ⟨w.heap.size + 2, j, none⟩ = false := HM.b2.frozen
  have y1 : ∀ j, wr.frozen? ⟨w.heap.size + 3, j, none⟩ = false := HM.b3.frozen
  obtain ⟨c0, c1, c2, c3, c4⟩ := HM.b2.d5;have MI : Hid ((wr.cell? ⟨w.heap.size + 1, 0, none⟩ = some (.int .i64 kd) ∧ wr.cell? ⟨w.heap.size + 1, 1, none⟩ = some (.int .i64 dv) ∧ wr.cell? ⟨w.heap.size + 1, 2, none⟩ = some (.int .i64 no) ∧ wr.cell? ⟨w.heap.size + 1, 3, none⟩ = some (.int .i64 po) ∧ wr.cell? ⟨w.heap.size + 1, 4, none⟩ = some (.int .i64 ke)) ∧ wr.cell? ⟨w.heap.size + 4, 0, none⟩ = some (.bool g0) ∧ wr.cell? ⟨w.heap.size + 4, 1, none⟩ = some (.bool g1) ∧ wr.cell? ⟨w.heap.size + 4, 2, none⟩ = some (.bool g2) ∧ wr.cell? ⟨w.heap.size + 4, 3, none⟩ = some (.bool g3)) := ⟨⟨HM.b1.cell 0, HM.b1.cell 1, HM.b1.cell 2, HM.b1.cell 3, HM.b1.cell 4⟩, HM.b4.cell 0, HM.b4.cell 1, HM.b4.cell 2, HM.b4.cell 3⟩
  have H5 : Hid (li w kd ⟨dv, no, po, ke, g0, g1, g2, g3⟩ (tO wr (w.heap.size + 2) (.int .i64 kd) (.int .i64 dv) (.int .i64 no) (.int .i64 po) (.int .i64 ke)).drew) := li.drew ⟨HM.b1.far5 (by omega), HM.b4.far5 (by omega), HM.b2.all5, HM.b3.far5 (by omega), lW HM.bl (by omega)⟩;unfold tO at H5;go_upto_region 19 with (fail);clear Cw RU
  refine fv (fun W' => (W'.cell? ⟨w.heap.size + 1, 0, none⟩ = some (.int .i64 kd) ∧ W'.cell? ⟨w.heap.size + 1, 1, none⟩ = some (.int .i64 dv) ∧ W'.cell? ⟨w.heap.size + 1, 2, none⟩ = some (.int .i64 no) ∧ W'.cell? ⟨w.heap.size + 1, 3, none⟩ = some (.int .i64 po) ∧ W'.cell? ⟨w.heap.size + 1, 4, none⟩ = some (.int .i64 ke)) ∧ W'.cell? ⟨w.heap.size + 4, 0, none⟩ = some (.bool g0) ∧ W'.cell? ⟨w.heap.size + 4, 1, none⟩ = some (.bool g1) ∧ W'.cell? ⟨w.heap.size + 4, 2, none⟩ = some (.bool g2) ∧ W'.cell? ⟨w.heap.size + 4, 3, none⟩ = some (.bool g3)) [3] ?_ fun AA => ?_
  ·exact MI.out
  try dsimp only at AA
  refine ty 0 71 (mf 4 1) AA (y := by intro w AL; (try dsimp only at AL); obtain ⟨⟨s0, s1, s2, s3, s4⟩, -⟩ := AL; go_simp; try with_reducible rfl) (h := ?_);refine ty 1 72 (mf 4 2) AA (y := by intro w AL; (try dsimp only at AL); obtain ⟨-, s5, s6, s7, s8⟩ := AL; go_simp; try with_reducible rfl) (h := ?_);refine tb 2 (mf 4 3) fun K hK => ?_
  go_simp
  refine hK _ _ (fun _ => H5.cells) fun p => (fun AA => ?_) (p rfl)
  clear p hK K;(try dsimp only at AA);clear y0 c0 c1 c2 c3 c4;generalize World.drew (World.setCell (World.setCell (World.setCell (World.setCell (World.setCell _ _ _) _ _) _ _) _ _) _ _) = w5 at *;have y5 : ∀ j, w5.frozen? ⟨w.heap.size + 3, j, none⟩ = false := H5.b3.frozen
  obtain ⟨d0, d1, d2, d3⟩ := H5.b3.d4;refine tb 3 (mf 4 4) fun K hK => ?_
  go_simp
  refine hK _ _ (fun h => by cases h) (fun _ => ?_)
  try clear AA
  clear hK K;refine tK ?_;have H9 : Hid (cD w kd ⟨dv, no, po, ke, g0, g1, g2, g3⟩ (ju w5 (w.heap.size + 3) (.bool g0) (.bool g1) (.bool g2) (.bool g3))) := ⟨H5.b2.far4 (by omega), H5.b3.all4, lX H5.bl (by omega)⟩;unfold ju at H9
  go_wp2_with fail
  generalize World.setCell (World.setCell (World.setCell (World.setCell _ _ _) _ _) _ _) _ _ = w9 at *;obtain ⟨t0, t1, t2, t3, t4⟩ := H9.b2.d5;obtain ⟨u0, u1, u2, u3⟩ := H9.b3.d4;exact bodyPost_ret (v := .tuple #[.agg #[.int .i64 kd, .int .i64 dv, .int .i64 no, .int .i64 po, .int .i64 ke], .agg #[.bool g0, .bool g1, .bool g2, .bool g3]]) (by simp [results, results141, go_sem, t0, t1, t2, t3, t4, u0, u1, u2, u3]) rfl ⟨by rw [← HQ.out]; rfl, H9.bl⟩
 obtain ⟨be, oe, x, AE, Fz, hx, hc⟩ := (HF.below HM.bl lR).at (fun _ => rfl) (by decide) hlt;have HX := iD hx;have e0 : wr.cell? ⟨be, oe + i, none⟩ = some x.val := by simpa using hc 0 _ rfl
 subst AE;clear hc hx;have HN : Hid (vM nn nd (fs.take (i + 1)) h0 = wE nn nd (vM nn nd (fs.take i) h0) x) := jP HX.out;obtain ⟨h, hh⟩ := eX (vM nn nd (fs.take i) h0);rw [← hh] at HM HN;clear hh HX;obtain ⟨dv, no, po, ke, g0, g1, g2, g3⟩ := h;obtain ⟨n0, n1⟩ := HM.b0.d2;have c1 := HM.b1.c1;have c2 := HM.b1.c2;have c3 := HM.b1.c3;have c4 := HM.b1.c4;obtain ⟨d0, d1, d2, d3⟩ := HM.b4.d4;have y1 : ∀ j, wr.frozen? ⟨w.heap.size + 1, j, none⟩ = false := HM.b1.frozen
 have y4 : ∀ j, wr.frozen? ⟨w.heap.size + 4, j, none⟩ = false := HM.b4.frozen
 have aD := asD x;have aN := asN x;have aP := asP x;have aK := asK x;rcases x with s | _ | _ | _ | _
 ·dsimp only [Fi.val] at e0 aD aN aP aK;have Dq : Hid (NH w #[.slice An nn cn, .slice Ad nd cd] kd (vM nn nd (fs.take (i + 1)) h0) wr) := by unfold Hid; rw [HN.out]; exact HM.out
  go_wp2_with fail
  refine Handed.intro (n - (i + 1)) (by omega) (EB _ _ _ (wW.back 13 ?_ (by kernel_rfl)));dsimp only [gt];exact ⟨i + 1, rfl, by omega, rfl, Dq⟩
 ·dsimp only [Fi.val] at e0 aD aN aP aK;have Dq := iD (HM.put 0 1 (.bool (LD nd dv)) (.int .i64 0) (h' := wE nn nd ⟨dv, no, po, ke, g0, g1, g2, g3⟩ .d) rfl rfl);rw [← HN.out] at Dq;clear HM HN;by_cases ha : dv < 0
  ·have q1 : decide (dv < 0) = true := by simpa using ha
   rw [show LD nd dv = true from by simp [LD, ha]] at Dq
   go_wp2_with fail
   refine Handed.intro (n - (i + 1)) (by omega) (EB _ _ _ (wW.back 13 ?_ (by kernel_rfl)));dsimp only [gt];exact ⟨i + 1, rfl, by omega, rfl, Dq⟩
  by_cases hb : (nd : Int) ≤ dv
  ·have q1 : decide (dv < 0) = false := by simpa using ha
   have q2 : decide ((nd : Int) ≤ dv) = true := by simpa using hb
   rw [show LD nd dv = true from by simp [LD, hb]] at Dq
   go_wp2_with fail
   refine Handed.intro (n - (i + 1)) (by omega) (EB _ _ _ (wW.back 13 ?_ (by kernel_rfl)));dsimp only [gt];exact ⟨i + 1, rfl, by omega, rfl, Dq⟩
  have q1 : decide (dv < 0) = false := by simpa using ha
  have q2 : decide ((nd : Int) ≤ dv) = false := by simpa using hb
  rw [show LD nd dv = false from by simp [LD, ha, hb]] at Dq
  go_wp2_with fail
  refine Handed.intro (n - (i + 1)) (by omega) (EB _ _ _ (wW.back 13 ?_ (by kernel_rfl)));dsimp only [gt];exact ⟨i + 1, rfl, by omega, rfl, Dq⟩
 ·dsimp only [Fi.val] at e0 aD aN aP aK;go_upto_region 10 with (fail)
  go_wp2_with fail
  clear n0 n1 c1 c2 c3 c4 d0 d1 d2 d3 y1 y4 e0;refine (lN An Ad nn cn nd cd no wr Bq).mono ?_;rintro e w1 ⟨rfl, AV⟩;have Fj := iD (HM.later AV);have Dq := iD (Fj.put 1 2 (.bool (!Rj nn no)) (.int .i64 0) (h' := wE nn nd ⟨dv, no, po, ke, g0, g1, g2, g3⟩ .n) rfl rfl);rw [← HN.out] at Dq;have c2 := Fj.b1.c2;have d1 := Fj.b4.cell 1;have y1 : ∀ j, w1.frozen? ⟨w.heap.size + 1, j, none⟩ = false := Fj.b1.frozen
  have y4 : ∀ j, w1.frozen? ⟨w.heap.size + 4, j, none⟩ = false := Fj.b4.frozen
  clear HM HN Fj AV;generalize Rj nn no = bb at *;rcases bb with _ | _
  ·go_wp2_with fail
   refine Handed.intro (n - (i + 1)) (by omega) (EB _ _ _ (wW.back 13 ?_ (by kernel_rfl)));dsimp only [gt];exact ⟨i + 1, rfl, by omega, rfl, Dq⟩
  ·go_wp2_with fail
   refine Handed.intro (n - (i + 1)) (by omega) (EB _ _ _ (wW.back 13 ?_ (by kernel_rfl)));dsimp only [gt];exact ⟨i + 1, rfl, by omega, rfl, Dq⟩
 ·dsimp only [Fi.val] at e0 aD aN aP aK;have Dq := iD (HM.put 2 3 (.bool (Nl po)) (.int .i64 0) (h' := wE nn nd ⟨dv, no, po, ke, g0, g1, g2, g3⟩ .p) rfl rfl);rw [← HN.out] at Dq;clear HM HN;by_cases ha : po = 1
  ·have q1 : (po != 1) = false := by simpa using ha
   rw [show Nl po = false from by simp [Nl, ha]] at Dq
   go_wp2_with fail
   refine Handed.intro (n - (i + 1)) (by omega) (EB _ _ _ (wW.back 13 ?_ (by kernel_rfl)));dsimp only [gt];exact ⟨i + 1, rfl, by omega, rfl, Dq⟩
  by_cases hb : po = 2
  ·have q1 : (po != 1) = true := by simpa using ha
   have q2 : (po != 2) = false := by simpa using hb
   rw [show Nl po = false from by simp [Nl, hb]] at Dq
   go_wp2_with fail
   refine Handed.intro (n - (i + 1)) (by omega) (EB _ _ _ (wW.back 13 ?_ (by kernel_rfl)));dsimp only [gt];exact ⟨i + 1, rfl, by omega, rfl, Dq⟩
  have q1 : (po != 1) = true := by simpa using ha
  have q2 : (po != 2) = true := by simpa using hb
  rw [show Nl po = true from by simp [Nl, ha, hb]] at Dq
  go_wp2_with fail
  refine Handed.intro (n - (i + 1)) (by omega) (EB _ _ _ (wW.back 13 ?_ (by kernel_rfl)));dsimp only [gt];exact ⟨i + 1, rfl, by omega, rfl, Dq⟩
 ·dsimp only [Fi.val] at e0 aD aN aP aK;have Dq := iD (HM.put 3 4 (.bool (Nn ke)) (.int .i64 0) (h' := wE nn nd ⟨dv, no, po, ke, g0, g1, g2, g3⟩ .k) rfl rfl);rw [← HN.out] at Dq;clear HM HN;by_cases ha : ke < 0
  ·have q1 : decide (ke < 0) = true := by simpa using ha
   rw [show Nn ke = true from by simp [Nn, ha]] at Dq
   go_wp2_with fail
   refine Handed.intro (n - (i + 1)) (by omega) (EB _ _ _ (wW.back 13 ?_ (by kernel_rfl)));dsimp only [gt];exact ⟨i + 1, rfl, by omega, rfl, Dq⟩
  by_cases hb : 65536 < ke
  ·have q1 : decide (ke < 0) = false := by simpa using ha
   have q2 : decide (65536 < ke) = true := by simpa using hb
   rw [show Nn ke = true from by simp [Nn, hb]] at Dq
   go_wp2_with fail
   refine Handed.intro (n - (i + 1)) (by omega) (EB _ _ _ (wW.back 13 ?_ (by kernel_rfl)));dsimp only [gt];exact ⟨i + 1, rfl, by omega, rfl, Dq⟩
  have q1 : decide (ke < 0) = false := by simpa using ha
  have q2 : decide (65536 < ke) = false := by simpa using hb
  rw [show Nn ke = false from by simp [Nn, ha, hb]] at Dq
  go_wp2_with fail
  refine Handed.intro (n - (i + 1)) (by omega) (EB _ _ _ (wW.back 13 ?_ (by kernel_rfl)));dsimp only [gt];exact ⟨i + 1, rfl, by omega, rfl, Dq⟩
section
variable (nn nd : Nat) (d no p q : Int)
theorem eV : zc nn nd ⟨1, d, no, p, q⟩ = if d < 0 ∨ (nd : Int) ≤ d then 8 else if no ≠ 0 ∨ p ≠ 0 ∨ q ≠ 0 then 14 else 0 := by (unfold zc Sp.posB Sp.keyB; simp only []; (repeat' split) <;> first | rfl | omega | (exfalso; simp at *; done) | (exfalso; simp at *; omega))
theorem eU : zc nn nd ⟨2, d, no, p, q⟩ = if d < 0 ∨ (nd : Int) ≤ d then 8 else if no ≠ 0 ∨ p ≠ 0 ∨ q ≠ 0 then 14 else 0 := by (unfold zc Sp.posB Sp.keyB; simp only []; (repeat' split) <;> first | rfl | omega | (exfalso; simp at *; done) | (exfalso; simp at *; omega))
theorem eT : zc nn nd ⟨3, d, no, p, q⟩ = if d < 0 ∨ (nd : Int) ≤ d then 8 else if p ≠ 1 ∧ p ≠ 2 then 10 else if q < 0 ∨ 65536 < q then 5 else if no ≠ 0 then 14 else 0 := by (unfold zc Sp.posB Sp.keyB; simp only []; (repeat' split) <;> first | rfl | omega | (exfalso; simp at *; done) | (exfalso; simp at *; omega))
theorem eS : zc nn nd ⟨4, d, no, p, q⟩ = if d < 0 ∨ (nd : Int) ≤ d then 8 else if q < 0 ∨ 65536 < q then 5 else if no ≠ 0 ∨ p ≠ 0 then 14 else 0 := by (unfold zc Sp.posB Sp.keyB; simp only []; (repeat' split) <;> first | rfl | omega | (exfalso; simp at *; done) | (exfalso; simp at *; omega))
theorem eR : zc nn nd ⟨5, d, no, p, q⟩ = if no < 0 ∨ (nn : Int) ≤ no then 7 else if d ≠ 0 ∨ p ≠ 0 ∨ q ≠ 0 then 14 else 0 := by (unfold zc Sp.posB Sp.keyB; simp only []; (repeat' split) <;> first | rfl | omega | (exfalso; simp at *; done) | (exfalso; simp at *; omega))
theorem eQ : zc nn nd ⟨6, d, no, p, q⟩ = if d < 0 ∨ (nd : Int) ≤ d then 8 else if p ≠ 1 ∧ p ≠ 2 then 10 else if no ≠ 0 ∨ q ≠ 0 then 14 else 0 := by (unfold zc Sp.posB Sp.keyB; simp only []; (repeat' split) <;> first | rfl | omega | (exfalso; simp at *; done) | (exfalso; simp at *; omega))
theorem dO {k : Int} (h : k < 1 ∨ 6 < k) : zc nn nd ⟨k, d, no, p, q⟩ = 6 := by unfold zc; rw [if_pos h]
end
def vu (h : Hs) : Int := if h.b0 then 8 else if h.b1 then 7 else if h.b2 then 10 else if h.b3 then 5 else if h.dv ≠ 0 ∨ h.no ≠ 0 ∨ h.po ≠ 0 ∨ h.ke ≠ 0 then 14 else 0
theorem iu {k d no p q : Int} (h1 : 1 ≤ k) (h6 : k ≤ 6) : vu (vM nn nd (rz k) ⟨d, no, p, q, false, false, false, false⟩) = zc nn nd ⟨k, d, no, p, q⟩ := by
 rcases (show k = 1 ∨ k = 2 ∨ k = 3 ∨ k = 4 ∨ k = 5 ∨ k = 6 by omega) with rfl | rfl | rfl | rfl | rfl | rfl
 ·rw [eV]; simp [vu, vM, rz, wE, LD]
 ·rw [eU]; simp [vu, vM, rz, wE, LD]
 ·rw [eT]; simp [vu, vM, rz, wE, LD, Nl, Nn]
 ·rw [eS]; simp [vu, vM, rz, wE, LD, Nn]
 ·rw [eR]
  have e : (!Rj nn no) = (decide (no < 0) || decide ((nn : Int) ≤ no)) := by
   unfold Rj;by_cases a : no < 0 <;> by_cases b : (nn : Int) ≤ no <;> simp [a, b] <;> omega
  simp only [vu, vM, rz];simp [wE, e]
 ·rw [eQ]; simp [vu, vM, rz, wE, LD, Nl]
theorem tQ (A : Option Addr) (n c : Nat) (w : World) : (binOp BinOp.eql 176 (.slice A n c) (.slice none 0 0)).run prog w = .ok (.bool A.isNone) w := by cases A <;> kernel_rfl
def Sp.eqB (x y : Sp) : Bool := x.kind == y.kind && x.dev == y.dev && x.node == y.node && x.pos == y.pos && x.key == y.key
theorem mi (k d no p q k2 d2 AB p2 q2 : Int) (w : World) : (binOp .neq 43 (.agg #[.int .i64 k, .int .i64 d, .int .i64 no, .int .i64 p, .int .i64 q]) (.agg #[.int .i64 k2, .int .i64 d2, .int .i64 AB, .int .i64 p2, .int .i64 q2])).run prog w = .ok (.bool (!Sp.eqB ⟨k, d, no, p, q⟩ ⟨k2, d2, AB, p2, q2⟩)) w := by
 have u3 := underlying3;have a3 := isAgg3;have z3 := sizeOf3;have hS : prog.underlying 43 = some (.struct (prog.fieldsOf 43)) := by kernel_rfl
 have hp : prog.stoodInHeld 43 = false := by kernel_rfl
 rw [run_neq_struct, show (10000 : Nat) = 9999 + 1 from rfl, run_equalIn_agg w 9999 43 _ _ hS hp];simp only [Program.fieldsOf, underlying43]
 go_simp
 by_cases h0 : k = k2 <;> by_cases h1 : d = d2 <;> by_cases h2 : no = AB <;> by_cases h3 : p = p2 <;> by_cases h4 : q = q2 <;> simp [h0, h1, h2, h3, h4, Sp.eqB]
theorem PP.new (w : World) (k dv nv po ke : Int) (g0 g1 g2 g3 : Bool) : AJ ((w.alloc (.cells #[.int .i64 k, .int .i64 dv, .int .i64 nv, .int .i64 po, .int .i64 ke] 43)).alloc (.cells #[.bool g0, .bool g1, .bool g2, .bool g3] 178)) w.heap.size 43 #[.int .i64 k, .int .i64 dv, .int .i64 nv, .int .i64 po, .int .i64 ke] ∧ AJ ((w.alloc (.cells #[.int .i64 k, .int .i64 dv, .int .i64 nv, .int .i64 po, .int .i64 ke] 43)).alloc (.cells #[.bool g0, .bool g1, .bool g2, .bool g3] 178)) (w.heap.size + 1) 178 #[.bool g0, .bool g1, .bool g2, .bool g3] :=
 ⟨(AJ.new w _ _).alloc _, by have := AJ.new (w.alloc (.cells #[.int .i64 k, .int .i64 dv, .int .i64 nv, .int .i64 po, .int .i64 ke] 43)) 178 #[.bool g0, .bool g1, .bool g2, .bool g3]; simpa using this⟩
theorem eh (w : World) : (Instr.index 181 (.agg #[.int .i64 8, .int .i64 7, .int .i64 10, .int .i64 5]) (.int .i64 0)).run prog w = .ok (.int .i64 8) w := by kernel_rfl
theorem ee (w : World) : (Instr.index 181 (.agg #[.int .i64 8, .int .i64 7, .int .i64 10, .int .i64 5]) (.int .i64 1)).run prog w = .ok (.int .i64 7) w := by kernel_rfl
theorem eZ (w : World) : (Instr.index 181 (.agg #[.int .i64 8, .int .i64 7, .int .i64 10, .int .i64 5]) (.int .i64 2)).run prog w = .ok (.int .i64 10) w := by kernel_rfl
theorem eY (w : World) : (Instr.index 181 (.agg #[.int .i64 8, .int .i64 7, .int .i64 10, .int .i64 5]) (.int .i64 3)).run prog w = .ok (.int .i64 5) w := by kernel_rfl
def PsR (g0 g1 g2 g3 : Bool) (V : World) (gk : Nat) (iv : Value) (wr : World) : Prop := ∃ i : Int, iv = .int .i64 i ∧ (0 ≤ i ∧ i ≤ 4) ∧ gk = 4 - i.toNat ∧ wr = V ∧ (0 < i → g0 = false) ∧ (1 < i → g1 = false) ∧ (2 < i → g2 = false) ∧ (3 < i → g3 = false)
theorem jA (An Ad : Option Addr) (nn cn nd cd : Nat) (k d no p q : Int) (w : World) (Bq : nn ≤ 9223372036854775807) (AG : nd ≤ 9223372036854775807) :
 Calls prog 111 #[.agg #[.slice An nn cn, .slice Ad nd cd], .agg #[.int .i64 k, .int .i64 d, .int .i64 no, .int .i64 p, .int .i64 q]] w fun e w' => e = .returned (.int .i64 (zc nn nd ⟨k, d, no, p, q⟩)) ∧ bW w w' := by
 have HB : Hid (Below w.heap.size w ((w.alloc (.cells #[.slice An nn cn, .slice Ad nd cd] 30)).alloc (.cells #[.int .i64 k, .int .i64 d, .int .i64 no, .int .i64 p, .int .i64 q] 43))) := ((Below.refl _ _).alloc lR _).alloc (by simp) _;have CB := iD ((AJ.new w 30 #[.slice An nn cn, .slice Ad nd cd]).alloc (.cells #[.int .i64 k, .int .i64 d, .int .i64 no, .int .i64 p, .int .i64 q] 43))
 have AQ : Hid (AJ ((w.alloc (.cells #[.slice An nn cn, .slice Ad nd cd] 30)).alloc (.cells #[.int .i64 k, .int .i64 d, .int .i64 no, .int .i64 p, .int .i64 q] 43)) (w.heap.size + 1) 43 #[.int .i64 k, .int .i64 d, .int .i64 no, .int .i64 p, .int .i64 q]) := by
  have := AJ.new (w.alloc (.cells #[.slice An nn cn, .slice Ad nd cd] 30)) 43 #[.int .i64 k, .int .i64 d, .int .i64 no, .int .i64 p, .int .i64 q];unfold Hid; simpa using this
 go_enter func111, ntmps111
 go_upto_region 1 with (fail);generalize World.alloc (World.alloc w _) _ = W at *;have s0 := AQ.c0;by_cases hk : k < 1 ∨ 6 < k
 ·have HE : Hid (zc nn nd ⟨k, d, no, p, q⟩ = 6) := dO nn nd d no p q hk
  go_wp2_with fail
  refine (gz k hk W).mono ?_;rintro e w1 ⟨rfl, rfl⟩;clear hk s0;have hn := tQ none 0 0
  go_wp2_with fail
  go_ret;exact ⟨zC (by rw [HE.out]), HB⟩
 have HK : Hid (vu (vM nn nd (rz k) ⟨d, no, p, q, false, false, false, false⟩) = zc nn nd ⟨k, d, no, p, q⟩) := iu (by omega) (by omega)
 go_wp2_with fail
 refine (hY k (by omega) (by omega) W).mono ?_;rintro e w1 ⟨b, n, rfl, Bc, AV⟩;clear hk s0;have BO := iD Bc.out;have BH := iD (HB.trans (AV.mono HB.size));have Wv := iD (CB.below AV CB.lt);have Pn := iD (AQ.below AV AQ.lt);clear Bc AV HB CB AQ;have hn := tQ (some ⟨b, 0, none⟩) n n;obtain ⟨n0, n1⟩ := Wv.d2;obtain ⟨s0, s1, s2, s3, s4⟩ := Pn.d5
 go_wp2_with fail
 clear n0 n1 s0 s1 s2 s3 s4;refine (gx An Ad _ nn cn nd cd n n (rz k) k ⟨d, no, p, q, false, false, false, false⟩ w1 rfl rfl rfl rfl BO Bq AG).mono ?_;rintro e w2 ⟨rfl, AZ⟩;obtain ⟨h, hh⟩ := eX (vM nn nd (rz k) ⟨d, no, p, q, false, false, false, false⟩);rw [← hh] at HK ⊢;clear hh BO;obtain ⟨dv, nv, po, ke, g0, g1, g2, g3⟩ := h;dsimp only [Hs.step, Hs.bad];have Ai := iD (BH.trans (AZ.mono BH.size));have Wu := iD (Pn.below AZ Pn.lt);clear AZ BH Wv Pn;go_upto_region 5 with (fail);have HV := iD (PP.new w2 k dv nv po ke g0 g1 g2 g3);have BS := iD ((Ai.alloc Ai.size (.cells #[.int .i64 k, .int .i64 dv, .int .i64 nv, .int .i64 po, .int .i64 ke] 43)).alloc (by have := Ai.size; simp; omega) (.cells #[.bool g0, .bool g1, .bool g2, .bool g3] 178))
 have II := iD ((Wu.alloc (.cells #[.int .i64 k, .int .i64 dv, .int .i64 nv, .int .i64 po, .int .i64 ke] 43)).alloc (.cells #[.bool g0, .bool g1, .bool g2, .bool g3] 178));generalize World.alloc (World.alloc w2 _) _ = V at *;clear Ai Wu;obtain ⟨x, hx⟩ := eX w2.heap.size;rw [← hx] at HV ⊢;clear hx;go_upto_region 6 with (fail);refine xY [(3, 0), (0, 1), (2, 0), (1, 1), (12, 0), (0, 2), (7, 1), (4, 0)] 23 (4) (PsR g0 g1 g2 g3 V) (by (try dsimp only [gt]); exact ⟨0, rfl, ⟨by decide, by decide⟩, rfl, rfl, fun h => absurd h (by decide), fun h => absurd h (by decide), fun h => absurd h (by decide), fun h => absurd h (by decide)⟩) (by kernel_rfl) ?_;intro u1 AW gk wr a hrel ha J1 K1 EB ME;dsimp only [za, Go.Proofs.YtkkobemhbicjgaaGreatDoor.v1, Nat.reduceAdd] at ha;subst ha;obtain ⟨i, rfl, hi, Ab, rfl, m0, m1, m2, m3⟩ := hrel;obtain ⟨d0, d1, d2, d3⟩ := HV.2.d4
 rcases (show i = 0 ∨ i = 1 ∨ i = 2 ∨ i = 3 ∨ i = 4 by omega) with rfl | rfl | rfl | rfl | rfl
 ·have hi := eh;rcases g0 with _ | _
  ·clear m0 m1 m2 m3
   go_wp2_with fail
   refine Handed.intro (3) (by omega) (EB _ _ _ (wW.back 23 ?_ (by kernel_rfl)));dsimp only [gt];exact ⟨1, rfl, ⟨by decide, by decide⟩, rfl, rfl, fun _ => rfl, fun h => absurd h (by decide), fun h => absurd h (by decide), fun h => absurd h (by decide)⟩
  ·have HE : Hid (zc nn nd ⟨k, d, no, p, q⟩ = 8) := by unfold Hid; rw [← HK.out]; simp [vu]
   clear m0 m1 m2 m3
   go_wp2_with fail
   go_ret;exact ⟨zC (by rw [HE.out]), BS⟩
 ·have hi := ee;have OJ := iD (m0 (by decide));rcases g1 with _ | _
  ·clear m0 m1 m2 m3
   go_wp2_with fail
   refine Handed.intro (2) (by omega) (EB _ _ _ (wW.back 23 ?_ (by kernel_rfl)));dsimp only [gt];exact ⟨2, rfl, ⟨by decide, by decide⟩, rfl, rfl, fun _ => OJ, fun _ => rfl, fun h => absurd h (by decide), fun h => absurd h (by decide)⟩
  ·have HE : Hid (zc nn nd ⟨k, d, no, p, q⟩ = 7) := by unfold Hid; rw [← HK.out]; simp [vu, OJ.out]
   clear m0 m1 m2 m3
   go_wp2_with fail
   go_ret;exact ⟨zC (by rw [HE.out]), BS⟩
 ·have hi := eZ;have OJ := iD (m0 (by decide));have DR := iD (m1 (by decide));rcases g2 with _ | _
  ·clear m0 m1 m2 m3
   go_wp2_with fail
   refine Handed.intro (1) (by omega) (EB _ _ _ (wW.back 23 ?_ (by kernel_rfl)));dsimp only [gt];exact ⟨3, rfl, ⟨by decide, by decide⟩, rfl, rfl, fun _ => OJ, fun _ => DR, fun _ => rfl, fun h => absurd h (by decide)⟩
  ·have HE : Hid (zc nn nd ⟨k, d, no, p, q⟩ = 10) := by unfold Hid; rw [← HK.out]; simp [vu, OJ.out, DR.out]
   clear m0 m1 m2 m3
   go_wp2_with fail
   go_ret;exact ⟨zC (by rw [HE.out]), BS⟩
 ·have hi := eY;have OJ := iD (m0 (by decide));have DR := iD (m1 (by decide));have Hz := iD (m2 (by decide));rcases g3 with _ | _
  ·clear m0 m1 m2 m3
   go_wp2_with fail
   refine Handed.intro (0) (by omega) (EB _ _ _ (wW.back 23 ?_ (by kernel_rfl)));dsimp only [gt];exact ⟨4, rfl, ⟨by decide, by decide⟩, rfl, rfl, fun _ => OJ, fun _ => DR, fun _ => Hz, fun _ => rfl⟩
  ·have HE : Hid (zc nn nd ⟨k, d, no, p, q⟩ = 5) := by unfold Hid; rw [← HK.out]; simp [vu, OJ.out, DR.out, Hz.out]
   clear m0 m1 m2 m3
   go_wp2_with fail
   go_ret;exact ⟨zC (by rw [HE.out]), BS⟩
 ·have OJ := iD (m0 (by decide));have DR := iD (m1 (by decide));have Hz := iD (m2 (by decide));have CU := iD (m3 (by decide));clear m0 m1 m2 m3 d0 d1 d2 d3;obtain ⟨c0, c1, c2, c3, c4⟩ := HV.1.d5;have s0 := II.c0;have hq := mi k dv nv po ke k 0 0 0 0;have HE : Hid (zc nn nd ⟨k, d, no, p, q⟩ = if dv ≠ 0 ∨ nv ≠ 0 ∨ po ≠ 0 ∨ ke ≠ 0 then 14 else 0) := by unfold Hid; rw [← HK.out]; have e0 := OJ.out; have e1 := DR.out; have e2 := Hz.out; have e3 := CU.out; subst e0 e1 e2 e3; rfl
  have HQ : Hid (Sp.eqB ⟨k, dv, nv, po, ke⟩ ⟨k, 0, 0, 0, 0⟩ = !decide (dv ≠ 0 ∨ nv ≠ 0 ∨ po ≠ 0 ∨ ke ≠ 0)) := by unfold Hid; by_cases a : dv = 0 <;> by_cases b : nv = 0 <;> by_cases c : po = 0 <;> by_cases e : ke = 0 <;> simp [Sp.eqB, a, b, c, e]
  by_cases hz : dv ≠ 0 ∨ nv ≠ 0 ∨ po ≠ 0 ∨ ke ≠ 0
  ·rw [HQ.out, decide_eq_true hz] at hq;have Eu : Hid (zc nn nd ⟨k, d, no, p, q⟩ = 14) := by unfold Hid; rw [HE.out, if_pos hz]
   clear hz
   go_wp2_with fail
   go_ret;exact ⟨zC (by rw [Eu.out]), BS⟩
  ·rw [HQ.out, decide_eq_false hz] at hq;have Eu : Hid (zc nn nd ⟨k, d, no, p, q⟩ = 0) := by unfold Hid; rw [HE.out, if_neg hz]
   clear hz
   go_wp2_with fail
   go_ret;exact ⟨zC (by rw [Eu.out]), BS⟩
theorem jr {xs : List Sp} {i : Nat} {x : Sp} (hx : xs[i]? = some x) : zz nn nd (xs.drop i) = if zc nn nd x ≠ 0 then zc nn nd x else zz nn nd (xs.drop (i + 1)) := by
 obtain ⟨hi, rfl⟩ := List.getElem?_eq_some_iff.mp hx;rw [List.drop_eq_getElem_cons hi, zz]
structure kW (w : World) (An Ad Ax : Option Addr) (nn cn nd cd nx cx : Nat) (ns : List Nd) (ds : List Dv) (nm : ByteArray) (xs : List Sp) : Prop where
 hn : BI w 3 An nn cn (ns.flatMap Nd.cells)
 hd : BI w 5 Ad nd cd (ds.flatMap Dv.cells)
 hx : BI w 5 Ax nx cx (xs.flatMap Sp.cells)
 la : Laid w
 sn : ∀ x ∈ ns, x.name.size ≤ 9223372036854775807
 sd : ∀ x ∈ ds, x.name.size ≤ 9223372036854775807
 sm : nm.size ≤ 9223372036854775807
structure Rs (w : World) (N : Array Value) (nm : ByteArray) (Ax : Option Addr) (nx cx : Nat) (wr : World) : Prop where
 b0 : AJ wr w.heap.size 30 N
 b1 : AJ wr (w.heap.size + 1) 41 #[.string nm, .slice Ax nx cx]
 bl : bW w wr
section
variable {w wr wr' : World} {N : Array Value} {An Ad Ax : Option Addr} {nn cn nd cd nx cx : Nat} {ns : List Nd} {ds : List Dv} {nm : ByteArray} {xs : List Sp}
theorem Rs.new (w : World) (N : Array Value) (nm : ByteArray) (Ax : Option Addr) (nx cx : Nat) : Rs w N nm Ax nx cx ((w.alloc (.cells N 30)).alloc (.cells #[.string nm, .slice Ax nx cx] 41)) :=
 ⟨(AJ.new w _ _).alloc _, by have := AJ.new (w.alloc (.cells N 30)) 41 #[.string nm, .slice Ax nx cx]; simpa using this, ((Below.refl _ _).alloc lR _).alloc (by simp) _⟩
theorem Rs.later (h : Rs w N nm Ax nx cx wr) (hb : bW wr wr') : Rs w N nm Ax nx cx wr' := ⟨h.b0.below hb h.b0.lt, h.b1.below hb h.b1.lt, h.bl.trans (hb.mono h.bl.size)⟩
theorem kW.below (h : kW w An Ad Ax nn cn nd cd nx cx ns ds nm xs) (hb : bW w wr) : kW wr An Ad Ax nn cn nd cd nx cx ns ds nm xs :=
 ⟨(h.hn.below hb lR).more hb.size, (h.hd.below hb lR).more hb.size, (h.hx.below hb lR).more hb.size, h.la.below hb lR, h.sn, h.sd, h.sm⟩
end
def PgR (w : World) (N : Array Value) (nm : ByteArray) (Ax : Option Addr) (nn nd nx cx : Nat) (xs : List Sp) (gk : Nat) (iv : Value) (wr : World) : Prop :=
 ∃ i : Nat, iv = .int .i64 i ∧ i ≤ nx ∧ gk = nx - i ∧ Hid (zz nn nd xs = zz nn nd (xs.drop i)) ∧ Hid (Rs w N nm Ax nx cx wr)
theorem nF (An Ad Ax : Option Addr) (nn cn nd cd nx cx : Nat) (ns : List Nd) (ds : List Dv) (nm : ByteArray) (xs : List Sp) (w : World) (h : kW w An Ad Ax nn cn nd cd nx cx ns ds nm xs) :
 Calls prog 74 #[.agg #[.slice An nn cn, .slice Ad nd cd], .agg #[.string nm, .slice Ax nx cx]] w fun e w' => e = .returned (.int .i64 (xw ns ds nm xs)) ∧ bW w w' := by
 have HH := iD h;have HB := iD (Rs.new w #[.slice An nn cn, .slice Ad nd cd] nm Ax nx cx);have Da : ns.length = nn := h.hn.len (fun _ => rfl) (by decide);have Hl : ds.length = nd := h.hd.len (fun _ => rfl) (by decide);have AK : xs.length = nx := h.hx.len (fun _ => rfl) (by decide);have Bq := h.hn.le;have AG := h.hd.le;have AY := h.hx.le;have HE : Hid (xw ns ds nm xs = if zR ns ds ≠ 0 then zR ns ds else if yO (BA nm) = false then 3 else if 64 < nx then 1 else zz nn nd xs) := by unfold Hid xw; rw [Da, Hl, AK]
 clear h
 go_enter func74, ntmps74
 go_upto_region 1 with (fail);generalize World.alloc (World.alloc w _) _ = W at *;have HM := iD (HH.below HB.bl);have AH := iD (vj An Ad nn cn nd cd W.heap.size W.heap.size ns ds W HM.la HM.hn HM.hd lR lR HM.sn HM.sd);obtain ⟨k0, k1⟩ := HB.b0.d2
 go_wp2_with fail
 clear k0 k1;refine AH.mono ?_;rintro e w1 ⟨rfl, AV⟩;have AQ := iD (HB.later AV);have Fj := iD (HM.below AV);clear AV HB HM AH;by_cases hc : zR ns ds = 0; rotate_left
 ·have q1 : (zR ns ds != 0) = true := by simpa using hc
  have HR : Hid (xw ns ds nm xs = zR ns ds) := by unfold Hid; rw [HE.out, if_pos hc]
  clear hc
  go_wp2_with fail
  go_ret;exact ⟨zC (by rw [HR.out]), AQ.bl⟩
 have Nc : Hid (xw ns ds nm xs = if yO (BA nm) = false then 3 else if 64 < nx then 1 else zz nn nd xs) := by unfold Hid; rw [HE.out, if_neg (by simp [hc])]
 rw [hc];clear hc HE;obtain ⟨p0, p1⟩ := AQ.b1.d2;have Fw := iD (rg nm w1 Fj.la Fj.sm)
 go_wp2_with fail
 clear p0 p1;refine Fw.mono ?_;rintro e w2 ⟨rfl, AZ⟩;have Ai := iD (AQ.later AZ);have Ck := iD (Fj.below AZ);clear AZ AQ Fj Fw;by_cases hm : yO (BA nm) = true; rotate_left
 ·have Oi : yO (BA nm) = false := by simpa using hm
  have HR : Hid (xw ns ds nm xs = 3) := by unfold Hid; rw [Nc.out, if_pos Oi]
  rw [Oi];clear hm Oi
  go_wp2_with fail
  go_ret;exact ⟨zC (by rw [HR.out]), Ai.bl⟩
 have Eu : Hid (xw ns ds nm xs = if 64 < nx then 1 else zz nn nd xs) := by unfold Hid; rw [Nc.out, if_neg (by simp [hm])]
 rw [hm];clear hm Nc;have p1 := Ai.b1.c1;by_cases hx : 64 < nx
 ·have q1 : decide ((64 : Int) < (nx : Int)) = true := by simp; omega
  have q2 : decide (64 < nx) = true := by simpa using hx
  have HR : Hid (xw ns ds nm xs = 1) := by unfold Hid; rw [Eu.out, if_pos hx]
  clear hx
  go_wp2_with fail
  go_ret;exact ⟨zC (by rw [HR.out]), Ai.bl⟩
 have q1 : decide ((64 : Int) < (nx : Int)) = false := by simp; omega
 have q2 : decide (64 < nx) = false := by simpa using hx
 have Ky : Hid (xw ns ds nm xs = zz nn nd xs) := by unfold Hid; rw [Eu.out, if_neg hx]
 clear Eu;go_upto_region 9 with (fail);clear p1 q1 q2;refine xY [(3, 0), (0, 1), (1, 0), (1, 1), (17, 0), (0, 2), (9, 1)] 27 (nx) (PgR w #[.slice An nn cn, .slice Ad nd cd] nm Ax nn nd nx cx xs) (by (try dsimp only [gt]); exact ⟨0, rfl, Nat.zero_le _, rfl, rfl, Ai⟩) (by kernel_rfl) ?_;intro u1 p27 gk wr a hrel ha J1 K1 EB ME;dsimp only [za, Go.Proofs.YtkkobemhbicjgaaGreatDoor.v1, Nat.reduceAdd] at ha;subst ha;clear Ai Ck;obtain ⟨i, rfl, hi, rfl, HS, HQ⟩ := hrel;have p1 := HQ.b1.c1;by_cases hlt : i < nx; rotate_left
 ·have Cw : decide ((i : Int) < (nx : Int)) = false := by simp; omega
  have RU : decide (i < nx) = false := by simp; omega
  have HR : Hid (xw ns ds nm xs = 0) := by unfold Hid; rw [Ky.out, HS.out, List.drop_eq_nil_of_le (by omega)]; rfl
  go_wp2_with fail
  go_ret;exact ⟨zC (by rw [HR.out]), HQ.bl⟩
 obtain ⟨be, oe, x, AE, Fz, hx', hcs⟩ := (HH.hx.below HQ.bl lR).at (fun _ => rfl) (by decide) hlt;have HX := iD hx';obtain ⟨ek, ed, en, ep, eq⟩ := x;have HC : Hid ((wr.cell? ⟨be, oe + i * 5, none⟩ = some (.int .i64 ek) ∧ wr.cell? ⟨be, oe + i * 5 + 1, none⟩ = some (.int .i64 ed) ∧ wr.cell? ⟨be, oe + i * 5 + 2, none⟩ = some (.int .i64 en) ∧ wr.cell? ⟨be, oe + i * 5 + 3, none⟩ = some (.int .i64 ep) ∧ wr.cell? ⟨be, oe + i * 5 + 4, none⟩ = some (.int .i64 eq)) ∧ (wr.cell? ⟨w.heap.size, 0, none⟩ = some (.slice An nn cn) ∧ wr.cell? ⟨w.heap.size, 1, none⟩ = some (.slice Ad nd cd)) ∧ wr.cell? ⟨w.heap.size + 1, 1, none⟩ = some (.slice Ax nx cx)) := ⟨⟨hcs 0 _ rfl, hcs 1 _ rfl, hcs 2 _ rfl, hcs 3 _ rfl, hcs 4 _ rfl⟩, ⟨HQ.b0.cell 0, HQ.b0.cell 1⟩, p1⟩;subst AE;clear hcs hx' Fz
 have BG : Hid (zz nn nd xs = if zc nn nd ⟨ek, ed, en, ep, eq⟩ ≠ 0 then zc nn nd ⟨ek, ed, en, ep, eq⟩ else zz nn nd (xs.drop (i + 1))) := HS.trans (jr HX);clear HX HS;obtain ⟨⟨c0, c1, c2, c3, c4⟩, ⟨k0, k1⟩, -⟩ := HC.out;clear HC;go_upto_region 11 with (fail);clear c0 c1 c2 c3 c4 k0 k1 p1;have HV := iD (AJ.new wr 43 #[.int .i64 ek, .int .i64 ed, .int .i64 en, .int .i64 ep, .int .i64 eq]);have Tw := iD (HQ.later ((Below.refl _ wr).alloc lR (.cells #[.int .i64 ek, .int .i64 ed, .int .i64 en, .int .i64 ep, .int .i64 eq] 43)));clear HQ;generalize World.alloc wr _ = V at *;obtain ⟨bq, FQ⟩ := eX wr.heap.size;rw [← FQ] at HV ⊢;clear FQ;obtain ⟨c0, c1, c2, c3, c4⟩ := HV.d5;obtain ⟨k0, k1⟩ := Tw.b0.d2
 go_wp2_with fail
 clear c0 c1 c2 c3 c4 k0 k1;refine (jA An Ad nn cn nd cd ek ed en ep eq V (by omega) (by omega)).mono ?_;rintro e w6 ⟨rfl, Db⟩;have Ey := iD (Tw.later Db);clear Db Tw HV;by_cases h0 : zc nn nd ⟨ek, ed, en, ep, eq⟩ = 0; rotate_left
 ·have q1 : (zc nn nd ⟨ek, ed, en, ep, eq⟩ != 0) = true := by simpa using h0
  have HR : Hid (xw ns ds nm xs = zc nn nd ⟨ek, ed, en, ep, eq⟩) := by unfold Hid; rw [Ky.out, BG.out, if_pos h0]
  clear h0
  go_wp2_with fail
  go_ret;exact ⟨zC (by rw [HR.out]), Ey.bl⟩
 have Ej : Hid (zz nn nd xs = zz nn nd (xs.drop (i + 1))) := by unfold Hid; rw [BG.out, if_neg (by simp [h0])]
 rw [h0];clear h0 BG
 go_wp2_with fail
 refine Handed.intro (nx - (i + 1)) (by omega) (EB _ _ _ (wW.back 27 ?_ (by kernel_rfl)));dsimp only [gt];exact ⟨i + 1, by go_num, by omega, rfl, Ej, Ey⟩
structure Fd where
 s : List Int
 ls : List Lk
 st : List Int
def fi (nd : Nat) (st : List Int) (i : Nat) : Bool := match st[i]? with
 | none => false
 | some d => decide (d < 0) || decide ((nd : Int) ≤ d) || (decide (0 < i) && decide (d ≤ st.getD (i - 1) 0))
def kV (nd : Nat) (st : List Int) : Prop := ∀ i, i < st.length → fi nd st i = false
section
variable {ns : List Nd} {ds : List Dv} {F : Fd}
end
theorem kV.mem {st : List Int} (h : kV nd st) {x : Int} (hx : x ∈ st) : 0 ≤ x ∧ x < nd := by
 obtain ⟨i, hi, rfl⟩ := List.mem_iff_getElem.1 hx;have := h i hi;unfold fi at this;rw [List.getElem?_eq_getElem hi] at this;simp only [Bool.or_eq_false_iff, decide_eq_false_iff_not] at this;omega
theorem kV.of {st : List Int} (h : st.Pairwise (· < ·)) (hm : ∀ x ∈ st, 0 ≤ x ∧ x < nd) : kV nd st := by
 intro i hi;have h1 := hm _ (List.getElem_mem hi);unfold fi;rw [List.getElem?_eq_getElem hi];simp only [Bool.or_eq_false_iff, decide_eq_false_iff_not, Bool.and_eq_false_iff];refine ⟨⟨by omega, by omega⟩, ?_⟩;by_cases h0 : i = 0
 ·left; omega
 ·right
  rw [List.getD_eq_getElem?_getD, List.getElem?_eq_getElem (show i - 1 < st.length by omega), Option.getD_some];have := (List.pairwise_iff_getElem.1 h) (i - 1) i (by omega) hi (by omega);omega
structure Wy (w : World) (An Ad As Al At : Option Addr) (nn cn nd cd n c nl cl nt ct : Nat) (ns : List Nd) (ds : List Dv) (F : Fd) : Prop where
 hn : BI w 3 An nn cn (ns.flatMap Nd.cells)
 hd : BI w 5 Ad nd cd (ds.flatMap Dv.cells)
 hs : BI w 1 As n c (zE F.s)
 hl : BI w 3 Al nl cl (F.ls.flatMap Lk.cells)
 ht : BI w 1 At nt ct (zE F.st)
 la : Laid w
 sn : ∀ x ∈ ns, x.name.size ≤ 9223372036854775807
 sd : ∀ x ∈ ds, x.name.size ≤ 9223372036854775807
section
variable {w w' : World} {An Ad As Al At : Option Addr} {nn cn nd cd n c nl cl nt ct : Nat} {ns : List Nd} {ds : List Dv} {F : Fd}
theorem Wy.later (h : Wy w An Ad As Al At nn cn nd cd n c nl cl nt ct ns ds F) (hb : bW w w') : Wy w' An Ad As Al At nn cn nd cd n c nl cl nt ct ns ds F :=
 ⟨(h.hn.below hb lR).more hb.size, (h.hd.below hb lR).more hb.size, (h.hs.below hb lR).more hb.size, (h.hl.below hb lR).more hb.size, (h.ht.below hb lR).more hb.size, h.la.below hb lR, h.sn, h.sd⟩
theorem Wy.ln (h : Wy w An Ad As Al At nn cn nd cd n c nl cl nt ct ns ds F) : ns.length = nn ∧ ds.length = nd ∧ F.s.length = n ∧ F.ls.length = nl ∧ F.st.length = nt :=
 ⟨h.hn.len (fun _ => rfl) (by decide), h.hd.len (fun _ => rfl) (by decide), h.hs.len (fun _ => rfl) (by decide), h.hl.len (fun _ => rfl) (by decide), h.ht.len (fun _ => rfl) (by decide)⟩
end
structure Bw (w : World) (L : List (TypeId × Array Value)) (wr : World) : Prop where
 b : ∀ i t c, L[i]? = some (t, c) → AJ wr (w.heap.size + i) t c
 l : bW w wr
section
variable {w wr wr' : World} {L : List (TypeId × Array Value)} {x0 x1 x2 x3 x4 : TypeId × Array Value} {t : TypeId} {c : Array Value}
theorem Bw.nil (w : World) : Bw w [] w := ⟨fun i t c h => by simp at h, Below.refl _ _⟩
theorem Bw.add (h : Bw w L wr) (hz : wr.heap.size = w.heap.size + L.length) (t : TypeId) (c : Array Value) : Bw w (L ++ [(t, c)]) (wr.alloc (.cells c t)) := by
 refine ⟨fun i t' c' hi => ?_, h.l.alloc (by omega) _⟩;rw [List.getElem?_append] at hi;split at hi
 ·exact (h.b i _ _ hi).alloc _
 ·next hlt =>
  have h0 : i - L.length = 0 := by
   rcases Nat.eq_zero_or_pos (i - L.length) with e | e
   ·exact e
   ·rw [List.getElem?_eq_none (by simp; omega)] at hi; cases hi
  rw [h0] at hi;have e : (t, c) = (t', c') := by simpa using hi
  injection e with e1 e2;subst e1 e2;have := AJ.new wr t c
  rwa [hz, show L.length = i by omega] at this
theorem Bw.later (h : Bw w L wr) (hb : bW wr wr') : Bw w L wr' := ⟨fun i t c hi => (h.b i t c hi).below hb (h.b i t c hi).lt, h.l.trans (hb.mono h.l.size)⟩
theorem Bw.drew (h : Bw w L wr) : Bw w L wr.drew := h.later (Below.refl _ _).drew
theorem Bw.put (h : Bw w L wr) {g : Nat} (hg : w.heap.size + L.length ≤ g) (i : Nat) (u : Value) : Bw w L (wr.setCell ⟨g, i, none⟩ u) :=
 ⟨fun k t c hk => (h.b k t c hk).far (by have := (List.getElem?_eq_some_iff.1 hk).1; show w.heap.size + k ≠ g; omega) _, h.l.setCell (by show w.heap.size ≤ g; omega) _⟩
theorem Bw.set (h : Bw w L wr) (i j : Nat) (v : Value) (hi : L[i]? = some (t, c)) : Bw w (L.set i (t, c.setIfInBounds j v)) (wr.setCell ⟨w.heap.size + i, j, none⟩ v) := by
 refine ⟨fun k t' c' hk => ?_, h.l.setCell (by show w.heap.size ≤ w.heap.size + i; omega) _⟩;rw [List.getElem?_set] at hk;by_cases e : i = k
 ·subst e;rw [if_pos rfl, if_pos (List.getElem?_eq_some_iff.1 hi).1] at hk;injection hk with hk; injection hk with h1 h2;subst h1 h2;exact (h.b i _ _ hi).set j v
 ·rw [if_neg e] at hk;exact (h.b k t' c' hk).far (by show w.heap.size + k ≠ w.heap.size + i; omega) _
theorem Bw.b0 (h : Bw w ((t, c) :: L) wr) : AJ wr w.heap.size t c := h.b 0 t c rfl
theorem Bw.b1 (h : Bw w (x0 :: (t, c) :: L) wr) : AJ wr (w.heap.size + 1) t c := h.b 1 t c rfl
theorem Bw.b2 (h : Bw w (x0 :: x1 :: (t, c) :: L) wr) : AJ wr (w.heap.size + 2) t c := h.b 2 t c rfl
theorem Bw.b3 (h : Bw w (x0 :: x1 :: x2 :: (t, c) :: L) wr) : AJ wr (w.heap.size + 3) t c := h.b 3 t c rfl
theorem Bw.b4 (h : Bw w (x0 :: x1 :: x2 :: x3 :: (t, c) :: L) wr) : AJ wr (w.heap.size + 4) t c := h.b 4 t c rfl
end
theorem Bw.new4 (w : World) (x y z u : TypeId × Array Value) : Bw w [x, y, z, u] ((((w.alloc (.cells x.2 x.1)).alloc (.cells y.2 y.1)).alloc (.cells z.2 z.1)).alloc (.cells u.2 u.1)) :=
 ((((Bw.nil w).add rfl x.1 x.2).add (by simp) y.1 y.2).add (by simp) z.1 z.2).add (by simp) u.1 u.2
def st5 (w : World) (g : Nat) (a b c d e : Value) : World := ((((w.setCell ⟨g, 0, none⟩ a).setCell ⟨g, 1, none⟩ b).setCell ⟨g, 2, none⟩ c).setCell ⟨g, 3, none⟩ d).setCell ⟨g, 4, none⟩ e
theorem Bw.st5 {x0 x1 x2 : TypeId × Array Value} {t : TypeId} {a0 b0 c0 d0 e0 : Value} (h : Bw w [x0, x1, x2, (t, #[a0, b0, c0, d0, e0])] wr) (a b c d e : Value) : Bw w [x0, x1, x2, (t, #[a, b, c, d, e])] (Go.Proofs.YtkkobemhbicjgaaGreatDoor.st5 wr (w.heap.size + 3) a b c d e) :=
 ((((h.set 3 0 a rfl).set 3 1 b rfl).set 3 2 c rfl).set 3 3 d rfl).set 3 4 e rfl
def InR (w : World) (n : Nat) (l m : List Int) (gk : Nat) (iv : Value) (wr : World) : Prop := ∃ i : Nat, iv = .int .i64 i ∧ i ≤ n ∧ gk = n - i ∧ Hid (bW w wr) ∧ Hid (∀ j, j < i → l[j]? = m[j]?)
theorem xm (A B : Option Addr) (n c n2 c2 Ba Bb : Nat) (l m : List Int) (w : World) (ha : Sl w Ba 1 A n c (zE l)) (hb : Sl w Bb 1 B n2 c2 (zE m)) (AP : Ba ≤ w.heap.size) (AO : Bb ≤ w.heap.size) : Calls prog 23 #[.slice A n c, .slice B n2 c2] w fun e w' => e = .returned (.bool (decide (l = m))) ∧ bW w w' := by
 have GV := iD (ha.len (fun _ => rfl) (by decide)); have NW := iD (hb.len (fun _ => rfl) (by decide));have QF := ha.le;have Aa := hb.le;have HA := iD ha; have HB := iD hb;clear ha hb;by_cases hn : n = n2; rotate_left
 ·have q : decide (n = n2) = false := by simpa using hn
  have q' : ((n : Int) != (n2 : Int)) = true := by simp; omega
  have HR : Hid (decide (l = m) = false) := decide_eq_false (fun e => hn (by rw [← GV.out, ← NW.out, e]));clear hn
  go_enter func23, ntmps23
  go_wp2_with fail
  go_ret;exact ⟨zF (by rw [HR.out]), Below.refl _ _⟩
 subst hn
 go_enter func23, ntmps23
 go_wp2_with fail
 go_loopg [5] n (InR w n l m)
 case atStart => exact ⟨0, rfl, Nat.zero_le _, rfl, Below.refl _ _, fun j hj => absurd hj (by omega)⟩
 case round =>
  obtain ⟨i, rfl, hi, rfl, AU, CP⟩ := hrel;by_cases hlt : i < n
  ·obtain ⟨b1, o1, x, rfl, AV, hx, Ta⟩ := (HA.below AU AP).at1 hlt;obtain ⟨b2, o2, y, rfl, AZ, hy, KQ⟩ := (HB.below AU AO).at1 hlt;have HX := iD hx; have HY := iD hy;clear hx hy;go_upto_region 6 with (fail);refine fv (fun W' => W'.cell? ⟨b1, o1 + i, none⟩ = some (.int .i64 x) ∧ W'.cell? ⟨b2, o2 + i, none⟩ = some (.int .i64 y)) [] ?_ fun AA => ?_
   ·exact ⟨Ta, KQ⟩
   try dsimp only at AA
   refine tk 0 17 (mf 9 1) AA ?_;refine tk 1 18 (mf 9 2) AA ?_;refine tk 2 19 (mf 9 3) AA ?_;refine tk 3 20 (mf 9 4) AA ?_;refine tk 4 21 (mf 9 5) AA ?_;refine tk 5 22 (mf 9 6) AA ?_;refine tk 6 23 (mf 9 7) AA ?_;refine tk 7 24 (mf 9 8) AA ?_;refine tk 8 25 (mf 9 9) AA ?_;refine tK ?_;clear AA;by_cases JO : x = y
   ·subst JO
    go_wp2_with fail
    go_roundg (n - (i + 1))
    case rel => exact ⟨i + 1, by go_num, by omega, rfl, AU.drew, fun j hj => by
     rcases Nat.lt_succ_iff_lt_or_eq.1 hj with h | rfl
     ·exact CP j h
     ·rw [HX.out, HY.out]⟩
    case measure => omega
   ·have q : (x != y) = true := by simpa using JO
    have q2 : (x == y) = false := by simpa using JO
    have HR : Hid (decide (l = m) = false) := decide_eq_false (fun e => JO (by have := HX.out; rw [e, HY.out] at this; exact (Option.some.inj this).symm));clear JO
    go_wp2_with fail
    go_ret;exact ⟨zF (by rw [HR.out]), AU.drew⟩
  ·obtain rfl : i = n := by omega
   have Cw : decide (i < i) = false := by simp
   have HR : Hid (decide (l = m) = true) := decide_eq_true (by
    apply List.ext_getElem?
    intro j;by_cases hj : j < i
    ·exact CP j hj
    ·rw [List.getElem?_eq_none (by rw [GV.out]; omega), List.getElem?_eq_none (by rw [NW.out]; omega)])
   go_wp2_with fail
   go_ret;exact ⟨zF (by rw [HR.out]), AU⟩
theorem vl {w1 w2 : World} {row : Option Nat} (h : w.grownBy w1 row) (hb : Below w.heap.size w1 w2) : w.grownBy w2 row :=
 ⟨hb.os.trans h.os, hb.tape.trans h.tape, hb.output.trans h.output, Nat.le_trans h.size hb.size, fun i hi hne => (hb.block i hi).trans (h.block i hi hne)⟩
def fe (w : World) (g below : Nat) (e : Ending) (w' : World) : Prop := ∃ (A : Option Addr) (k c : Nat) (l : List Int), e = .returned (.slice A k c) ∧ Hid (zN w' g) ∧ Hid (w.grownBy w' (some g)) ∧ Hid (zL w' w.heap.size A k c l) ∧ Hid (k ≤ below ∧ yr below (-1) l = true)
def dz (w : World) (g below gk : Nat) (ov iv : Value) (wr : World) : Prop := ∃ (i m co : Nat) (Ao : Option Addr) (out : List Int), iv = .int .i64 i ∧ ov = .slice Ao m co ∧ i ≤ below ∧ gk = below - i ∧ m ≤ i ∧ Hid (zL wr w.heap.size Ao m co out) ∧ Hid (zN wr g) ∧ Hid (w.grownBy wr (some g)) ∧ Hid (yr below (-1) out = true ∧ vt (-1) out < i)
theorem lB (g below most : Nat) (w : World) (hd : zN w g) (hb : below ≤ 1000) (hm : most ≤ 1000) :
 Calls prog 45 #[.pointer (some ⟨g, 0, none⟩), .int .i64 (below : Int), .int .i64 (most : Int)] w (fe w g below) := by
 have hlt := hd.lt;have JG := iD hd;clear hd
 go_enter func45, ntmps45
 go_wp2_with fail
 go_loopg [7, 8] below (dz w g below)
 case atStart => exact ⟨0, 0, 0, none, [], rfl, rfl, Nat.zero_le _, rfl, Nat.le_refl _, World.ownsRow_nil _ _ _ _, JG, yx _ _, ⟨rfl, by show (-1 : Int) < 0; omega⟩⟩
 case round =>
  obtain ⟨i, m, co, Ao, out, rfl, rfl, hi, rfl, AE, hO, hD, hG, hR⟩ := hrel;by_cases hgo : i < below ∧ m < most
  ·obtain ⟨AG, Nr⟩ := hgo
   go_wp2_with fail
   refine (wK g 3 wr hD (by decide)).mono ?_;rintro e w3 ⟨r, rfl, Hm, EI, Ls⟩;have Az := iD (hO.kept EI (zb fun b e => by have := (hO.lt b e).1; omega));have CU := iD (zG hG EI);have JN := CU.size;clear hD hG EI Ls hO;rcases r with _ | _
   ·go_wp2_with fail
    go_roundg (below - (i + 1))
    ·exact ⟨i + 1, m, co, Ao, out, by go_num, rfl, by omega, rfl, by omega, Az, Hm, CU, ⟨hR.1, by have := hR.2; omega⟩⟩
    omega
   ·have Er : Hid (yr below (-1) (out ++ [(i : Int)]) = true ∧ vt (-1) (out ++ [(i : Int)]) < ((i + 1 : Nat) : Int)) := by
     obtain ⟨h1, h2⟩ := hR.out;refine ⟨?_, by rw [ux]; omega⟩;rw [uN, h1];have h3 : ((i : Nat) : Int) < (below : Nat) := by omega
     simp [h2, h3]
    go_wp2_with (at_builtin; go_must (refine zM rfl (.tmp 22) (.tmp 24) rfl yU (by rfl) (Az.alloc _) (by rfl) (Sl.newest (n := 1) (by simp) (by rfl) (by decide)) (by simp [Value.oneCell']) (by omega) (by omega) (by simp; omega) ?_; intro A' cap' w4 CY Bt IX; have BC := iD CY; have Fq := iD Bt; clear CY Bt IX))
    have DF : Hid (Below w.heap.size w3 w4) := ((Below.refl _ _).alloc (by omega) _).trans ⟨Fq.os, Fq.tape, Fq.output, Fq.size, fun q hq => Fq.block q (by simp; omega) (fun e => by have := (Az.lt q e.symm).1; omega)⟩;have Em := iD (Hm.below DF (by omega));have Jw : Hid (w.grownBy w4 (some g)) := vl CU DF.out
    go_roundg (below - (i + 1))
    case rel =>
     refine ⟨i + 1, m + 1, cap', A', out ++ [(i : Int)], by go_num, rfl, by omega, rfl, by omega, ?_, Em, Jw, Er⟩;have := BC.out;unfold Hid zL;rw [ze];exact this
    case measure => omega
  ·have DW : Hid (fe w g below (.returned (.slice Ao m co)) wr) := ⟨Ao, m, co, out, rfl, hD, hG, hO, by omega, hR.1⟩;by_cases hl : i < below
   ·have ql : decide ((m : Int) < (most : Int)) = false := by simp; omega
    have AB : decide (m < most) = false := by simp; omega
    go_wp2_with fail
    go_ret;exact DW.out
   ·have ql : decide ((i : Int) < (below : Int)) = false := by simp; omega
    have AB : decide (i < below) = false := by simp; omega
    go_wp2_with fail
    go_ret;exact DW.out
def gQ (w : World) (g nn : Nat) (Al : Option Addr) (nl cl : Nat) (e : Ending) (w' : World) : Prop := ∃ (co : Int) (Ap : Option Addr) (np cp : Nat) (pr : List Int), e = .returned (.agg #[.int .i64 co, .slice Al nl cl, .slice Ap np cp]) ∧ (0 ≤ co ∧ co ≤ 7) ∧ Hid (zN w' g) ∧ Hid (w.grownBy w' (some g)) ∧ Hid (zL w' w.heap.size Ap np cp pr) ∧ Hid (np ≤ nn ∧ yr nn (-1) pr = true)
theorem qW (g : Nat) (An Ad Al : Option Addr) (nn cn nd cd nl cl : Nat) (w : World) (hd : zN w g) (Bq : nn ≤ 1000) :
 Calls prog 17 #[.pointer (some ⟨g, 0, none⟩), .agg #[.slice An nn cn, .slice Ad nd cd], .slice Al nl cl] w (gQ w g nn Al nl cl) := by
 have hlt := hd.lt;have JG := iD ((hd.alloc (.cells #[.slice An nn cn, .slice Ad nd cd] 30)).alloc (.cells #[.int .i64 0, .slice none 0 0, .slice none 0 0] 37));have CB : Hid (Below w.heap.size w ((w.alloc (.cells #[.slice An nn cn, .slice Ad nd cd] 30)).alloc (.cells #[.int .i64 0, .slice none 0 0, .slice none 0 0] 37))) := ((Below.refl _ _).alloc lR _).alloc (by simp) _
 have Hy : Hid (AJ ((w.alloc (.cells #[.slice An nn cn, .slice Ad nd cd] 30)).alloc (.cells #[.int .i64 0, .slice none 0 0, .slice none 0 0] 37)) (w.heap.size + 1) 37 #[.int .i64 0, .slice none 0 0, .slice none 0 0]) := by
  have := AJ.new (w.alloc (.cells #[.slice An nn cn, .slice Ad nd cd] 30)) 37 #[.int .i64 0, .slice none 0 0, .slice none 0 0];unfold Hid; simpa using this
 clear hd
 go_enter func17, ntmps17
 go_wp2_with fail
 generalize World.alloc (World.alloc w _) _ = W at *;have OQ := CB.size;have AA : Hid (w.heap.size + 1 < W.heap.size) := Hy.lt;refine (lB g nn 3 W JG Bq (by decide)).mono ?_;rintro e w1 ⟨Ap, np, cp, pr, rfl, BB, Av, Hq, KL⟩;have De := iD ((Hy.grown Av (fun e => by injection e with e; omega)).alloc (.cells #[.int .i64 0, .slice Al nl cl, .slice Ap np cp] 37));have DR := iD (zG (zG (zH CB (some g)) Av) (zH ((Below.refl _ _).alloc lR (.cells #[.int .i64 0, .slice Al nl cl, .slice Ap np cp] 37)) (some g)));have Lg := iD (BB.alloc (.cells #[.int .i64 0, .slice Al nl cl, .slice Ap np cp] 37));have DY : Hid (zL (w1.alloc (.cells #[.int .i64 0, .slice Al nl cl, .slice Ap np cp] 37)) W.heap.size Ap np cp pr) := Hq.alloc _;have Ja := iD (AJ.new w1 37 #[.int .i64 0, .slice Al nl cl, .slice Ap np cp]);have ER := Av.size
 have Wx : Hid (∀ q, (Value.slice Ap np cp).ownBlock = some q → q < w1.heap.size) := fun q h => (Hq.lt q h).2
 clear BB Av Hq Hy JG CB;go_upto_region 2 with (fail);generalize World.alloc w1 _ = W2 at *;obtain ⟨vb, Dt⟩ := eX w1.heap.size;rw [← Dt] at Ja Wx ER ⊢;clear Dt
 go_wp2_with fail
 refine (wK g 6 W2 Lg (by decide)).mono ?_;rintro e w3 ⟨r, rfl, Hm, EI, Ls⟩;have EC := iD (De.grown EI (fun e => by injection e with e; omega));have Iy := iD (Ja.grown EI (fun e => by injection e with e; omega));have Az := iD (DY.kept EI (zb fun b e => by have := (DY.lt b e).1; omega));have CU := iD (zG DR EI);clear De Ja DY DR Lg EI Ls
 have DW : Hid (∀ (co : Int) (w4 : World), 0 ≤ co ∧ co ≤ 7 → AJ w4 vb 37 #[.int .i64 co, .slice Al nl cl, .slice Ap np cp] → zN w4 g → w.grownBy w4 (some g) → zL w4 W.heap.size Ap np cp pr →
  gQ w g nn Al nl cl (.returned (.agg #[.int .i64 co, .slice Al nl cl, .slice Ap np cp])) (((w4.setCell ⟨w.heap.size + 1, 0, none⟩ (.int .i64 co)).setCell ⟨w.heap.size + 1, 1, none⟩ (.slice Al nl cl)).setCell ⟨w.heap.size + 1, 2, none⟩ (.slice Ap np cp))) := by
  intro co w4 DT _ LJ Fa EA;refine ⟨co, Ap, np, cp, pr, rfl, DT, ((LJ.setCell (by simp; omega) _).setCell (by simp; omega) _).setCell (by simp; omega) _, zj (zj (zj Fa (by simp) _) (by simp) _) (by simp) _, ?_, KL⟩;have hq : ∀ b, (Value.slice Ap np cp).ownBlock = some b → b ≠ w.heap.size + 1 := fun b e => by have := (EA.lt b e).1; have := AA.out; omega
  exact (((EA.kept (zg _ _ _) (zb hq)).kept (zg _ _ _) (zb hq)).kept (zg _ _ _) (zb hq)).mono OQ
 rcases r with _ | _
 ·have HX := iD (DW 0 w3 ⟨by decide, by decide⟩ Iy Hm CU Az);clear DW Az CU Hm;obtain ⟨v0, v1, v2⟩ := Iy.d3;obtain ⟨c0, c1, c2⟩ := EC.d3;have f0 : w3.frozen? ⟨w.heap.size + 1, 0, none⟩ = false := EC.frozen 0;have f1 : w3.frozen? ⟨w.heap.size + 1, 1, none⟩ = false := EC.frozen 1;have f2 : w3.frozen? ⟨w.heap.size + 1, 2, none⟩ = false := EC.frozen 2
  go_wp2_with fail
  exact bodyPost_ret (v := .agg #[.int .i64 0, .slice Al nl cl, .slice Ap np cp]) (by simp [results, results17, go_sem, c0, c1, c2]) rfl HX.out
 ·go_wp2_with fail
  refine (zT g 3 w3 Hm (by decide)).mono ?_;rintro e w4 ⟨co, rfl, IQ, _, Ci, LJ, Fa, Uk⟩;have KJ := Ci (by omega);have El := iD ((EC.grown Fa (fun e => by injection e with e; omega)).far (p := ⟨vb, 0, none⟩) (by show w.heap.size + 1 ≠ vb; have := AA.out; omega) (.int .i64 co));have DX : Hid (AJ (w4.setCell ⟨vb, 0, none⟩ (.int .i64 co)) vb 37 #[.int .i64 co, .slice Al nl cl, .slice Ap np cp]) := (Iy.grown Fa (fun e => by injection e with e; omega)).set 0 (.int .i64 co);have BC := iD ((Az.kept Fa (zb fun b e => by have := (Az.lt b e).1; omega)).kept (zg w4 ⟨vb, 0, none⟩ (.int .i64 co)) (zb fun b e => by have := Wx b e; simp; omega));have Fq := iD (zj (zG CU Fa) (p := ⟨vb, 0, none⟩) (by simp; omega) (.int .i64 co));have Em := iD (LJ.setCell (p := ⟨vb, 0, none⟩) (by simp; omega) (.int .i64 co));have e0 := (Iy.grown Fa (fun e => by injection e with e; omega)).c0
  have e1 : w4.frozen? ⟨vb, 0, none⟩ = false := (Iy.grown Fa (fun e => by injection e with e; omega)).frozen 0;have HX := iD (DW co _ ⟨IQ, by omega⟩ DX Em Fq BC);clear DW Az CU Hm LJ Fa Uk EC Iy BC Fq Em Ci;go_upto_region 4 with (fail);generalize World.setCell w4 _ _ = w5 at *;clear e0 e1;obtain ⟨v0, v1, v2⟩ := DX.d3;obtain ⟨c0, c1, c2⟩ := El.d3;have f0 : w5.frozen? ⟨w.heap.size + 1, 0, none⟩ = false := El.frozen 0;have f1 : w5.frozen? ⟨w.heap.size + 1, 1, none⟩ = false := El.frozen 1;have f2 : w5.frozen? ⟨w.heap.size + 1, 2, none⟩ = false := El.frozen 2
  go_wp2_with fail
  exact bodyPost_ret (v := .agg #[.int .i64 co, .slice Al nl cl, .slice Ap np cp]) (by simp [results, results17, go_sem, c0, c1, c2]) rfl HX.out
variable {ds : List Dv} {s : List Int} {ls : List Lk}
def xQ (ds : List Dv) (s : List Int) (most : Nat) (ls : List Lk) : Prop := xz ds ls ∧ ls.length ≤ most ∧ ∀ k ∈ ls, 10 ≤ k.key ∧ k.key < 10 + 3 * (most : Int) ∧ ∀ x, s[k.dev.toNat]? = some x → 0 < x → x ≤ 2 → k.pos = x
def ph (w : World) (g most : Nat) (ds : List Dv) (s : List Int) (e : Ending) (w' : World) : Prop :=
 ∃ (A : Option Addr) (m c : Nat) (ls : List Lk), e = .returned (.slice A m c) ∧ Hid (zN w' g) ∧ Hid (w.grownBy w' (some g)) ∧ Hid (zk w' (w.heap.size + 1) A m c ls) ∧ Hid (xQ ds s most ls)
theorem xQ.nil (ds : List Dv) (s : List Int) (most : Nat) : xQ ds s most [] := ⟨⟨by simp, by simp, List.Pairwise.nil⟩, by simp, by simp⟩
theorem xQ.more {most : Nat} (h : xQ ds s most ls) : xQ ds s (most + 1) ls := ⟨h.1, by have := h.2.1; omega, fun k hk => by obtain ⟨h1, h2, h3⟩ := h.2.2 k hk; exact ⟨h1, by omega, h3⟩⟩
theorem jf {ns : List Nd} {k : Lk} (h : zh ns ds ls k = 0) : xz ds (ww k ls) := by
 unfold zh at h;split at h
 ·next h1 => exact absurd h h1
 ·next h1 =>
  split at h
  ·next h2 => exact absurd h h2
  ·next h2 =>
   split at h
   ·omega
   ·next h3 =>
    split at h
    ·omega
    ·next h4 =>
     split at h
     ·omega
     ·next h5 =>
      have hg := yw (by simpa using h1 : zJ ns ds ls = 0);exact rp hg (by simpa using h2) (by simpa using h3) (by simpa using h4) (by have := hg.1; omega)
theorem xQ.put {ns : List Nd} {j : Nat} {k : Lk} (h : xQ ds s j ls) (ha : zh ns ds ls k = 0) (h1 : 10 ≤ k.key) (h2 : k.key < 10 + 3 * ((j : Int) + 1)) (h3 : ∀ x, s[k.dev.toNat]? = some x → 0 < x → x ≤ 2 → k.pos = x) : xQ ds s (j + 1) (ww k ls) := by
 refine ⟨jf ha, by rw [wL]; have := h.2.1; omega, fun y hy => ?_⟩;rcases (kB k y ls).1 hy with rfl | hy
 ·exact ⟨h1, by omega, h3⟩
 ·obtain ⟨a, b, c⟩ := h.2.2 y hy;exact ⟨a, by omega, c⟩
theorem xQ.upto {a b : Nat} (h : xQ ds s a ls) (Oy : a ≤ b) : xQ ds s b ls := ⟨h.1, by have := h.2.1; omega, fun k hk => by obtain ⟨h1, h2, h3⟩ := h.2.2 k hk; exact ⟨h1, by omega, h3⟩⟩
theorem tT (An Ad Al : Option Addr) (nn cn nd cd c Bn Bd Bl : Nat) (ns : List Nd) (ds : List Dv) (ls : List Lk) (d p q : Int) (w : World) (hn : Sl w Bn 3 An nn cn (ns.flatMap Nd.cells)) (hd : Sl w Bd 5 Ad nd cd (ds.flatMap Dv.cells)) (hs : Sl w Bl 3 Al ls.length c (ls.flatMap Lk.cells)) (CS : Bn ≤ w.heap.size) (BP : Bd ≤ w.heap.size) (Dn : Bl ≤ w.heap.size)
 (Bg : FP ns) (BU : Fv ds) :
 Calls prog 57 #[.agg #[.slice An nn cn, .slice Ad nd cd], .slice Al ls.length c, .agg #[.int .i64 d, .int .i64 p, .int .i64 q]] w fun e w' => ∃ (A' : Option Addr) (m' c' : Nat) (er : Int), e = .returned (.tuple #[.slice A' m' c', .int .i64 er]) ∧ Hid (er = 0 → m' = ls.length + 1 ∧ zh ns ds ls ⟨d, p, q⟩ = 0 ∧ zk w' w.heap.size A' m' c' (ww ⟨d, p, q⟩ ls)) ∧ Hid (bW w w') := by
 refine (iF An Ad Al nn cn nd cd c Bn Bd Bl ns ds ls d p q w hn hd hs CS BP Dn Bg BU).mono ?_;rintro e w' ⟨⟨h1, rfl⟩ | ⟨h1, A', c', rfl, hO⟩, hb⟩
 ·exact ⟨none, 0, 0, _, rfl, fun h => absurd h h1, hb⟩
 ·exact ⟨A', _, c', 0, rfl, fun _ => ⟨rfl, h1, hO⟩, hb⟩
theorem wR {k : Nat} {v : Int} (hk : k ≤ 1000) (h0 : 0 ≤ v) (h1 : v < 3) : IntKind.i64.wrap (IntKind.i64.wrap (10 + IntKind.i64.wrap (3 * (k : Int))) + v) = 10 + 3 * (k : Int) + v := by
 rw [IntWalk.i64_in (3 * (k : Int)) (by omega), IntWalk.i64_in (10 + 3 * (k : Int)) (by omega), IntWalk.i64_in _ (by omega)]
def MlR (w W : World) (g most : Nat) (ds : List Dv) (s : List Int) (gk : Nat) (ov kv : Value) (wr : World) : Prop :=
 ∃ (k c : Nat) (A : Option Addr) (ls : List Lk), ov = .slice A ls.length c ∧ kv = .int .i64 k ∧ k ≤ most ∧ gk = most - k ∧ Hid (zk wr (w.heap.size + 1) A ls.length c ls) ∧ Hid (zN wr g) ∧ Hid (W.grownBy wr (some g)) ∧ Hid (xQ ds s k ls)
theorem nQ (g : Nat) (An Ad As : Option Addr) (nn cn nd cd n c most : Nat) (ns : List Nd) (ds : List Dv) (s : List Int) (w : World) (hd : zN w g) (Px : Dx w g 3 An nn cn (ns.flatMap Nd.cells)) (DI : Dx w g 5 Ad nd cd (ds.flatMap Dv.cells)) (Nk : Dx w g 1 As n c (zE s)) (AP : nd ≤ 1000) (QD : most ≤ 1000)
 (Bg : FP ns) (BU : Fv ds) :
 Calls prog 27 #[.pointer (some ⟨g, 0, none⟩), .agg #[.slice An nn cn, .slice Ad nd cd], .slice As n c, .int .i64 (most : Int)] w (ph w g most ds s) := by
 have hlt := hd.lt;have Ej := iD Bg; have Ce := iD BU;have JG := iD (hd.alloc (.cells #[.slice An nn cn, .slice Ad nd cd] 30));have Js := iD (Px.alloc (.cells #[.slice An nn cn, .slice Ad nd cd] 30));have Tq := iD (DI.alloc (.cells #[.slice An nn cn, .slice Ad nd cd] 30));have Tp := iD (Nk.alloc (.cells #[.slice An nn cn, .slice Ad nd cd] 30));have Hr := iD (Nk.1.len (f := fun x : Int => [Value.int .i64 x]) (fun _ => rfl) (by decide));have Hy := iD (AJ.new w 30 #[.slice An nn cn, .slice Ad nd cd]);have CB : Hid (w.grownBy (w.alloc (.cells #[.slice An nn cn, .slice Ad nd cd] 30)) (some g)) := zH ((Below.refl _ _).alloc lR _) _;have HW : Hid ((w.alloc (.cells #[.slice An nn cn, .slice Ad nd cd] 30)).heap.size = w.heap.size + 1) := by unfold Hid; simp
 have AQ := DI.1.le;have hcs := Nk.1.le;clear hd Px DI Nk Bg BU
 go_enter func27, ntmps27
 go_wp2_with fail
 generalize World.alloc _ _ = W at *
 go_loopg [9, 10] most (MlR w W g most ds s)
 case atStart => exact ⟨0, 0, none, [], rfl, rfl, Nat.zero_le _, rfl, World.ownsRow_nil _ _ _ _, JG, yx _ _, xQ.nil _ _ _⟩
 case round =>
  clear JG;obtain ⟨k, c', A, ls, rfl, rfl, hk, rfl, hO, hD, hG, hM⟩ := hrel;have Fp := iD (Hy.grown hG (fun e => by injection e with e; omega));have k1 := Fp.c1;by_cases hgo : k < most ∧ 0 < nd
  ·obtain ⟨FZ, AG⟩ := hgo
   go_wp2_with fail
   clear k1;refine (wK g 3 wr hD (by decide)).mono ?_;rintro e w3 ⟨r, rfl, Hm, EI, Ls⟩;have Az := iD (hO.kept EI (zb fun b e => by have := (hO.lt b e).1; omega));have CU := iD (zG hG EI);clear hD hG EI Ls hO Fp;rcases r with _ | _;rotate_left
   ·have Ck := iD (hM.more)
    go_wp2_with fail
    go_roundg (most - (k + 1))
    ·exact ⟨k + 1, c', A, ls, rfl, by go_num, by omega, rfl, Az, Hm, CU, Ck⟩
    omega
   have EC := iD (Hy.grown CU (fun e => by injection e with e; omega));have k1 := EC.c1
   go_wp2_with fail
   clear k1 EC;refine (zT g (nd : Int) w3 Hm (by omega)).mono ?_;rintro e w4 ⟨v, rfl, IQ, _, Ci, LJ, Fa, Uk⟩;have KJ := Ci (by omega);obtain ⟨t, rfl⟩ := Int.eq_ofNat_of_zero_le IQ;have Ua : t < nd := by omega
   have BC := iD (Az.kept Fa (zb fun b e => by have := (Az.lt b e).1; omega));have Fq := iD (zG CU Fa);clear Hm Fa Uk Az CU Ci KJ IQ;have Ru := iD (Tp.grown Fq)
   have IG : (∃ x b off, t < n ∧ As = some ⟨b, off, none⟩ ∧ b < W.heap.size ∧ b ≠ g ∧ s[t]? = some x ∧ 0 < x ∧ w4.cell? ⟨b, off + t, none⟩ = some (.int .i64 x)) ∨ (∃ x b off, t < n ∧ As = some ⟨b, off, none⟩ ∧ s[t]? = some x ∧ ¬ 0 < x ∧ w4.cell? ⟨b, off + t, none⟩ = some (.int .i64 x)) ∨ ¬ t < n := by
    by_cases OY : t < n
    ·obtain ⟨b, off, x, rfl, hb, hx, hc⟩ := Ru.1.at1 OY;have AH := Ru.2 b off rfl;by_cases h0 : 0 < x
     ·refine .inl ⟨x, b, off, OY, rfl, ?_, AH, hx, h0, hc⟩;obtain ⟨b', off', _, e', hb', _⟩ := Tp.1.at1 OY;injection e' with e'; injection e' with e1 e2;omega
     ·exact .inr (.inl ⟨x, b, off, OY, rfl, hx, h0, hc⟩)
    ·exact .inr (.inr OY)
   have AB : ∃ p : Int, Hid (∀ x, s[t]? = some x → 0 < x → x ≤ 2 → p = x) ∧ ((∃ x b off, t < n ∧ As = some ⟨b, off, none⟩ ∧ b < W.heap.size ∧ b ≠ g ∧ 0 < x ∧ 2 < x ∧ Hid (∀ y, s[t]? = some y → 0 < y → y ≤ 2 → False) ∧ w4.cell? ⟨b, off + t, none⟩ = some (.int .i64 x)) ∨ (∃ b off, t < n ∧ As = some ⟨b, off, none⟩ ∧ 0 < p ∧ ¬ 2 < p ∧ w4.cell? ⟨b, off + t, none⟩ = some (.int .i64 p)) ∨ (p = 1 ∧ ∃ x b off, t < n ∧ As = some ⟨b, off, none⟩ ∧ ¬ 0 < x ∧ w4.cell? ⟨b, off + t, none⟩ = some (.int .i64 x)) ∨ (p = 1 ∧ ¬ t < n)) := by
    rcases IG with ⟨x, b, off, h1, h2, h3, h4, h5, h6, h7⟩ | ⟨x, b, off, h1, h2, h5, h6, h7⟩ | h1
    ·by_cases h8 : 2 < x
     ·exact ⟨0, fun y hy _ AL => by rw [h5] at hy; injection hy with hy; omega, .inl ⟨x, b, off, h1, h2, h3, h4, h6, h8, fun y hy _ _ => by rw [h5] at hy; injection hy with hy; omega, h7⟩⟩
     ·exact ⟨x, fun y hy _ _ => by rw [h5] at hy; injection hy, .inr (.inl ⟨b, off, h1, h2, h6, h8, h7⟩)⟩
    ·exact ⟨1, fun y hy _ _ => by rw [h5] at hy; injection hy with hy; omega, .inr (.inr (.inl ⟨rfl, x, b, off, h1, h2, h6, h7⟩))⟩
    ·exact ⟨1, fun y hy _ _ => by have h9 := (List.getElem?_eq_some_iff.1 hy).1; have := Hr.out; omega, .inr (.inr (.inr ⟨rfl, h1⟩))⟩
   clear IG Ru;obtain ⟨p, PT, IG⟩ := AB;rcases IG with ⟨x, b, off, h1, rfl, h3, h4, h6, h8, JA, c1⟩ | ⟨b, off, h1, rfl, h6, h8, c1⟩ | ⟨rfl, x, b, off, h1, rfl, h6, c1⟩ | ⟨rfl, h1⟩
   ·have q1 : decide (0 < x) = true := by simpa using h6
    have q2 : decide (2 < x) = true := by simpa using h8
    go_wp2_with fail
    clear c1 q1 q2 PT;refine (zT g 2 w4 LJ (by decide)).mono ?_;rintro e w5 ⟨v, rfl, IQ, _, Ci, VF, GL, AE⟩;have AO := Ci (by decide);have La := iD (BC.kept GL (zb fun b e => by have := (BC.lt b e).1; omega));have Jw := iD (zG Fq GL);have PT : Hid (∀ y, s[t]? = some y → 0 < y → y ≤ 2 → 1 + v = y) := fun y a b c => (JA y a b c).elim
    clear LJ BC Fq GL AE Ci JA h3 h4 h6 h8;go_upto_region 12 with (fail);have Fp := iD (Hy.grown Jw (fun e => by injection e with e; omega));have AU := Fp.lt;have Ee : Hid (w5.cell? ⟨w.heap.size, 0, none⟩ = some (.slice An nn cn) ∧ w5.cell? ⟨w.heap.size, 1, none⟩ = some (.slice Ad nd cd)) := ⟨Fp.cell 0, Fp.cell 1⟩;clear Fp;refine fv (fun W' => W'.cell? ⟨w.heap.size, 0, none⟩ = some (.slice An nn cn) ∧ W'.cell? ⟨w.heap.size, 1, none⟩ = some (.slice Ad nd cd)) [] ?_ fun AA => ?_
    ·exact Ee.out
    try dsimp only at AA
    refine tk 0 54 (mf 17 1) AA ?_;refine tk 1 55 (mf 17 2) AA ?_;refine tk 2 56 (mf 17 3) AA ?_;refine tk 3 57 (mf 17 4) AA ?_;refine tk 4 58 (mf 17 5) AA ?_;refine tk 5 59 (mf 17 6) AA ?_;refine tk 6 60 (mf 17 7) AA ?_;refine tk 7 61 (mf 17 8) AA ?_;refine tb 8 (mf 17 9) fun K hK => ?_
    (go_simp; refine (zT g 3 w5.drew VF.drew (by decide)).mono ?_; rintro e w6 ⟨v6, rfl, NE, _, ND, KP, JS, RG⟩; have NC := ND (by decide); have Dy := iD (xn JS); clear ND RG; go_simp)
    refine hK _ _ (fun _ => ⟨(World.cell?_of_block (Dy.block w.heap.size AU (fun e => by injection e with e; omega))).trans Ee.1, (World.cell?_of_block (Dy.block w.heap.size AU (fun e => by injection e with e; omega))).trans Ee.2⟩) fun p => (fun AA => ?_) (p rfl)
    clear p hK K;(try dsimp only at AA);refine tk 9 63 (mf 17 10) AA ?_;refine tk 10 64 (mf 17 11) AA ?_;refine tb 11 (mf 17 12) fun K hK => ?_
    (have Di := iD (La.kept Dy (zb fun b e => by have := (La.lt b e).1; omega)); have Gt := iD (zG Jw Dy); have Qy := Gt.size; rw [HW.out] at Qy; have Gl := iD (Js.grown Gt); have Gm := iD (Tq.grown Gt); go_simp; refine (tT An Ad A nn cn nd cd c' _ _ _ ns ds ls t _ _ w6 Gl.1 Gm.1 (Sl.of_own Di) lR lR lR Ej Ce).mono ?_; rintro e w7 ⟨A7, m7, c7, er, rfl, IR, Cx⟩; go_simp)
    refine hK _ _ (fun _ => ⟨(Cx.cell (p := ⟨w.heap.size, 0, none⟩) (by simp only; omega)).trans AA.1, (Cx.cell (p := ⟨w.heap.size, 1, none⟩) (by simp only; omega)).trans AA.2⟩) fun p => (fun AA => ?_) (p rfl)
    clear p hK K;(try dsimp only at AA);refine tk 12 53 (mf 17 13) AA ?_;refine tk 13 66 (mf 17 14) AA ?_;refine tk 14 67 (mf 17 15) AA ?_;refine tk 15 13 (mf 17 16) AA ?_;refine tk 16 14 (mf 17 17) AA ?_;refine tK ?_;clear AA Ee;have Ca := iD (zG Gt (zH Cx (some g)));have KO := iD (KP.grown (zH Cx none) (fun k e => by cases e));have Ii := iD (zI Di (Cx.mono lR));clear Cx Di KP Dy Gl Gm Gt;by_cases KN : er = 0
    ·obtain ⟨rfl, Gf, Mt⟩ := IR KN;subst KN;have GG := iD Mt;have Ck := iD (hM.put Gf (by simp only; rw [wR (by omega) NE NC]; omega) (by simp only; rw [wR (by omega) NE NC]; omega) (fun x hx h0 h2 => PT x (by simpa using hx) h0 h2));clear IR Gf Mt
     go_wp2_with fail
     go_roundg (most - (k + 1))
     ·exact ⟨k + 1, c7, A7, _, by rw [wL], by go_num, by omega, rfl, by rw [wL]; exact World.ownsRow.mono GG (by omega), KO, Ca, Ck⟩
     omega
    ·have qe : (er == 0) = false := by simpa using KN
     have Ck := iD hM.more;clear IR
     go_wp2_with fail
     go_roundg (most - (k + 1))
     ·exact ⟨k + 1, c', A, ls, rfl, by go_num, by omega, rfl, Ii, KO, Ca, Ck⟩
     omega
   ·have q1 : decide (0 < p) = true := by simpa using h6
    have q2 : decide (2 < p) = false := by simpa using h8
    go_upto_region 12 with (fail);clear c1 q1 q2 h6 h8;have Fp := iD (Hy.grown Fq (fun e => by injection e with e; omega));have AU := Fp.lt;have Ee : Hid (w4.cell? ⟨w.heap.size, 0, none⟩ = some (.slice An nn cn) ∧ w4.cell? ⟨w.heap.size, 1, none⟩ = some (.slice Ad nd cd)) := ⟨Fp.cell 0, Fp.cell 1⟩;clear Fp;refine fv (fun W' => W'.cell? ⟨w.heap.size, 0, none⟩ = some (.slice An nn cn) ∧ W'.cell? ⟨w.heap.size, 1, none⟩ = some (.slice Ad nd cd)) [] ?_ fun AA => ?_
    ·exact Ee.out
    try dsimp only at AA
    refine tk 0 54 (mf 17 1) AA ?_;refine tk 1 55 (mf 17 2) AA ?_;refine tk 2 56 (mf 17 3) AA ?_;refine tk 3 57 (mf 17 4) AA ?_;refine tk 4 58 (mf 17 5) AA ?_;refine tk 5 59 (mf 17 6) AA ?_;refine tk 6 60 (mf 17 7) AA ?_;refine tk 7 61 (mf 17 8) AA ?_;refine tb 8 (mf 17 9) fun K hK => ?_
    (go_simp; refine (zT g 3 w4.drew LJ.drew (by decide)).mono ?_; rintro e w6 ⟨v6, rfl, NE, _, ND, KP, JS, RG⟩; have NC := ND (by decide); have Dy := iD (xn JS); clear ND RG; go_simp)
    refine hK _ _ (fun _ => ⟨(World.cell?_of_block (Dy.block w.heap.size AU (fun e => by injection e with e; omega))).trans Ee.1, (World.cell?_of_block (Dy.block w.heap.size AU (fun e => by injection e with e; omega))).trans Ee.2⟩) fun p => (fun AA => ?_) (p rfl)
    clear p hK K;(try dsimp only at AA);refine tk 9 63 (mf 17 10) AA ?_;refine tk 10 64 (mf 17 11) AA ?_;refine tb 11 (mf 17 12) fun K hK => ?_
    (have Di := iD (BC.kept Dy (zb fun b e => by have := (BC.lt b e).1; omega)); have Gt := iD (zG Fq Dy); have Qy := Gt.size; rw [HW.out] at Qy; have Gl := iD (Js.grown Gt); have Gm := iD (Tq.grown Gt); go_simp; refine (tT An Ad A nn cn nd cd c' _ _ _ ns ds ls t _ _ w6 Gl.1 Gm.1 (Sl.of_own Di) lR lR lR Ej Ce).mono ?_; rintro e w7 ⟨A7, m7, c7, er, rfl, IR, Cx⟩; go_simp)
    refine hK _ _ (fun _ => ⟨(Cx.cell (p := ⟨w.heap.size, 0, none⟩) (by simp only; omega)).trans AA.1, (Cx.cell (p := ⟨w.heap.size, 1, none⟩) (by simp only; omega)).trans AA.2⟩) fun p => (fun AA => ?_) (p rfl)
    clear p hK K;(try dsimp only at AA);refine tk 12 53 (mf 17 13) AA ?_;refine tk 13 66 (mf 17 14) AA ?_;refine tk 14 67 (mf 17 15) AA ?_;refine tk 15 13 (mf 17 16) AA ?_;refine tk 16 14 (mf 17 17) AA ?_;refine tK ?_;clear AA Ee;have Ca := iD (zG Gt (zH Cx (some g)));have KO := iD (KP.grown (zH Cx none) (fun k e => by cases e));have Ii := iD (zI Di (Cx.mono lR));clear Cx Di KP Dy Gl Gm Gt;by_cases KN : er = 0
    ·obtain ⟨rfl, Gf, Mt⟩ := IR KN;subst KN;have GG := iD Mt;have Ck := iD (hM.put Gf (by simp only; rw [wR (by omega) NE NC]; omega) (by simp only; rw [wR (by omega) NE NC]; omega) (fun x hx h0 h2 => PT x (by simpa using hx) h0 h2));clear IR Gf Mt
     go_wp2_with fail
     go_roundg (most - (k + 1))
     ·exact ⟨k + 1, c7, A7, _, by rw [wL], by go_num, by omega, rfl, by rw [wL]; exact World.ownsRow.mono GG (by omega), KO, Ca, Ck⟩
     omega
    ·have qe : (er == 0) = false := by simpa using KN
     have Ck := iD hM.more;clear IR
     go_wp2_with fail
     go_roundg (most - (k + 1))
     ·exact ⟨k + 1, c', A, ls, rfl, by go_num, by omega, rfl, Ii, KO, Ca, Ck⟩
     omega
   ·have q1 : decide (0 < x) = false := by simpa using h6
    go_upto_region 12 with (fail);clear c1 q1 h6;have Fp := iD (Hy.grown Fq (fun e => by injection e with e; omega));have AU := Fp.lt;have Ee : Hid (w4.cell? ⟨w.heap.size, 0, none⟩ = some (.slice An nn cn) ∧ w4.cell? ⟨w.heap.size, 1, none⟩ = some (.slice Ad nd cd)) := ⟨Fp.cell 0, Fp.cell 1⟩;clear Fp;refine fv (fun W' => W'.cell? ⟨w.heap.size, 0, none⟩ = some (.slice An nn cn) ∧ W'.cell? ⟨w.heap.size, 1, none⟩ = some (.slice Ad nd cd)) [] ?_ fun AA => ?_
    ·exact Ee.out
    try dsimp only at AA
    refine tk 0 54 (mf 17 1) AA ?_;refine tk 1 55 (mf 17 2) AA ?_;refine tk 2 56 (mf 17 3) AA ?_;refine tk 3 57 (mf 17 4) AA ?_;refine tk 4 58 (mf 17 5) AA ?_;refine tk 5 59 (mf 17 6) AA ?_;refine tk 6 60 (mf 17 7) AA ?_;refine tk 7 61 (mf 17 8) AA ?_;refine tb 8 (mf 17 9) fun K hK => ?_
    (go_simp; refine (zT g 3 w4.drew LJ.drew (by decide)).mono ?_; rintro e w6 ⟨v6, rfl, NE, _, ND, KP, JS, RG⟩; have NC := ND (by decide); have Dy := iD (xn JS); clear ND RG; go_simp)
    refine hK _ _ (fun _ => ⟨(World.cell?_of_block (Dy.block w.heap.size AU (fun e => by injection e with e; omega))).trans Ee.1, (World.cell?_of_block (Dy.block w.heap.size AU (fun e => by injection e with e; omega))).trans Ee.2⟩) fun p => (fun AA => ?_) (p rfl)
    clear p hK K;(try dsimp only at AA);refine tk 9 63 (mf 17 10) AA ?_;refine tk 10 64 (mf 17 11) AA ?_;refine tb 11 (mf 17 12) fun K hK => ?_
    (have Di := iD (BC.kept Dy (zb fun b e => by have := (BC.lt b e).1; omega)); have Gt := iD (zG Fq Dy); have Qy := Gt.size; rw [HW.out] at Qy; have Gl := iD (Js.grown Gt); have Gm := iD (Tq.grown Gt); go_simp; refine (tT An Ad A nn cn nd cd c' _ _ _ ns ds ls t _ _ w6 Gl.1 Gm.1 (Sl.of_own Di) lR lR lR Ej Ce).mono ?_; rintro e w7 ⟨A7, m7, c7, er, rfl, IR, Cx⟩; go_simp)
    refine hK _ _ (fun _ => ⟨(Cx.cell (p := ⟨w.heap.size, 0, none⟩) (by simp only; omega)).trans AA.1, (Cx.cell (p := ⟨w.heap.size, 1, none⟩) (by simp only; omega)).trans AA.2⟩) fun p => (fun AA => ?_) (p rfl)
    clear p hK K;(try dsimp only at AA);refine tk 12 53 (mf 17 13) AA ?_;refine tk 13 66 (mf 17 14) AA ?_;refine tk 14 67 (mf 17 15) AA ?_;refine tk 15 13 (mf 17 16) AA ?_;refine tk 16 14 (mf 17 17) AA ?_;refine tK ?_;clear AA Ee;have Ca := iD (zG Gt (zH Cx (some g)));have KO := iD (KP.grown (zH Cx none) (fun k e => by cases e));have Ii := iD (zI Di (Cx.mono lR));clear Cx Di KP Dy Gl Gm Gt;by_cases KN : er = 0
    ·obtain ⟨rfl, Gf, Mt⟩ := IR KN;subst KN;have GG := iD Mt;have Ck := iD (hM.put Gf (by simp only; rw [wR (by omega) NE NC]; omega) (by simp only; rw [wR (by omega) NE NC]; omega) (fun x hx h0 h2 => PT x (by simpa using hx) h0 h2));clear IR Gf Mt
     go_wp2_with fail
     go_roundg (most - (k + 1))
     ·exact ⟨k + 1, c7, A7, _, by rw [wL], by go_num, by omega, rfl, by rw [wL]; exact World.ownsRow.mono GG (by omega), KO, Ca, Ck⟩
     omega
    ·have qe : (er == 0) = false := by simpa using KN
     have Ck := iD hM.more;clear IR
     go_wp2_with fail
     go_roundg (most - (k + 1))
     ·exact ⟨k + 1, c', A, ls, rfl, by go_num, by omega, rfl, Ii, KO, Ca, Ck⟩
     omega
   ·have q1 : decide (t < n) = false := by simpa using h1
    go_upto_region 12 with (fail);clear q1;have Fp := iD (Hy.grown Fq (fun e => by injection e with e; omega));have AU := Fp.lt;have Ee : Hid (w4.cell? ⟨w.heap.size, 0, none⟩ = some (.slice An nn cn) ∧ w4.cell? ⟨w.heap.size, 1, none⟩ = some (.slice Ad nd cd)) := ⟨Fp.cell 0, Fp.cell 1⟩;clear Fp;refine fv (fun W' => W'.cell? ⟨w.heap.size, 0, none⟩ = some (.slice An nn cn) ∧ W'.cell? ⟨w.heap.size, 1, none⟩ = some (.slice Ad nd cd)) [] ?_ fun AA => ?_
    ·exact Ee.out
    try dsimp only at AA
    refine tk 0 54 (mf 17 1) AA ?_;refine tk 1 55 (mf 17 2) AA ?_;refine tk 2 56 (mf 17 3) AA ?_;refine tk 3 57 (mf 17 4) AA ?_;refine tk 4 58 (mf 17 5) AA ?_;refine tk 5 59 (mf 17 6) AA ?_;refine tk 6 60 (mf 17 7) AA ?_;refine tk 7 61 (mf 17 8) AA ?_;refine tb 8 (mf 17 9) fun K hK => ?_
    (go_simp; refine (zT g 3 w4.drew LJ.drew (by decide)).mono ?_; rintro e w6 ⟨v6, rfl, NE, _, ND, KP, JS, RG⟩; have NC := ND (by decide); have Dy := iD (xn JS); clear ND RG; go_simp)
    refine hK _ _ (fun _ => ⟨(World.cell?_of_block (Dy.block w.heap.size AU (fun e => by injection e with e; omega))).trans Ee.1, (World.cell?_of_block (Dy.block w.heap.size AU (fun e => by injection e with e; omega))).trans Ee.2⟩) fun p => (fun AA => ?_) (p rfl)
    clear p hK K;(try dsimp only at AA);refine tk 9 63 (mf 17 10) AA ?_;refine tk 10 64 (mf 17 11) AA ?_;refine tb 11 (mf 17 12) fun K hK => ?_
    (have Di := iD (BC.kept Dy (zb fun b e => by have := (BC.lt b e).1; omega)); have Gt := iD (zG Fq Dy); have Qy := Gt.size; rw [HW.out] at Qy; have Gl := iD (Js.grown Gt); have Gm := iD (Tq.grown Gt); go_simp; refine (tT An Ad A nn cn nd cd c' _ _ _ ns ds ls t _ _ w6 Gl.1 Gm.1 (Sl.of_own Di) lR lR lR Ej Ce).mono ?_; rintro e w7 ⟨A7, m7, c7, er, rfl, IR, Cx⟩; go_simp)
    refine hK _ _ (fun _ => ⟨(Cx.cell (p := ⟨w.heap.size, 0, none⟩) (by simp only; omega)).trans AA.1, (Cx.cell (p := ⟨w.heap.size, 1, none⟩) (by simp only; omega)).trans AA.2⟩) fun p => (fun AA => ?_) (p rfl)
    clear p hK K;(try dsimp only at AA);refine tk 12 53 (mf 17 13) AA ?_;refine tk 13 66 (mf 17 14) AA ?_;refine tk 14 67 (mf 17 15) AA ?_;refine tk 15 13 (mf 17 16) AA ?_;refine tk 16 14 (mf 17 17) AA ?_;refine tK ?_;clear AA Ee;have Ca := iD (zG Gt (zH Cx (some g)));have KO := iD (KP.grown (zH Cx none) (fun k e => by cases e));have Ii := iD (zI Di (Cx.mono lR));clear Cx Di KP Dy Gl Gm Gt;by_cases KN : er = 0
    ·obtain ⟨rfl, Gf, Mt⟩ := IR KN;subst KN;have GG := iD Mt;have Ck := iD (hM.put Gf (by simp only; rw [wR (by omega) NE NC]; omega) (by simp only; rw [wR (by omega) NE NC]; omega) (fun x hx h0 h2 => PT x (by simpa using hx) h0 h2));clear IR Gf Mt
     go_wp2_with fail
     go_roundg (most - (k + 1))
     ·exact ⟨k + 1, c7, A7, _, by rw [wL], by go_num, by omega, rfl, by rw [wL]; exact World.ownsRow.mono GG (by omega), KO, Ca, Ck⟩
     omega
    ·have qe : (er == 0) = false := by simpa using KN
     have Ck := iD hM.more;clear IR
     go_wp2_with fail
     go_roundg (most - (k + 1))
     ·exact ⟨k + 1, c', A, ls, rfl, by go_num, by omega, rfl, Ii, KO, Ca, Ck⟩
     omega
  ·have DW : Hid (ph w g most ds s (.returned (.slice A ls.length c')) wr) := ⟨A, _, c', ls, rfl, hD, zG CB hG, hO, hM.upto hk⟩;by_cases hl : k < most
   ·obtain rfl : nd = 0 := by omega
    go_wp2_with fail
    go_ret;exact DW.out
   ·have ql : decide ((k : Int) < (most : Int)) = false := by simp; omega
    have AK : decide (k < most) = false := by simp; omega
    go_wp2_with fail
    go_ret;exact DW.out
open Go.RowKit
theorem pz {a b : List UInt8} {i j : Nat} (hi : i < 100) (hj : j < 100) (hl : a.length = b.length) (h : Dm a i = Dm b j) : a = b ∧ i = j := by
 unfold Dm at h;have h1 := List.append_inj h hl;refine ⟨h1.1, ?_⟩;have h2 := h1.2;simp only [List.cons.injEq, and_true] at h2;have e1 := congrArg UInt8.toNat h2.1;have e2 := congrArg UInt8.toNat h2.2;rw [UInt8.toNat_ofNat', UInt8.toNat_ofNat'] at e1 e2;omega
theorem re (c : UInt8) (i : Nat) (hc : vW c.toNat true = true) (hi : i < 100) : yO (Dm [c] i) = true := by
 unfold yO Dm;have e1 : (UInt8.ofNat (48 + i / 10)).toNat = 48 + i / 10 := by rw [UInt8.toNat_ofNat']; omega
 have e2 : (UInt8.ofNat (48 + i % 10)).toNat = 48 + i % 10 := by rw [UInt8.toNat_ofNat']; omega
 have hd : ∀ k : Nat, k < 10 → vW ((48 + k : Nat) : Int) false = true := by
  intro k hk;rw [pK];have : nr ((48 + k : Nat) : Int) = true := by simp [nr]; omega
  rw [this];simp
 have Dh : ∀ k, k < ([c] ++ [UInt8.ofNat (48 + i / 10), UInt8.ofNat (48 + i % 10)]).length → vW (([c] ++ [UInt8.ofNat (48 + i / 10), UInt8.ofNat (48 + i % 10)]).getD k 0).toNat (k == 0) = true := by
  intro k hk
  match k, hk with
  | 0, _ => exact hc
  | 1, _ =>
   have := hd (i / 10) (by omega);simp only [List.singleton_append, List.getD_cons_succ, List.getD_cons_zero];rw [e1]; exact this
  | 2, _ =>
   have := hd (i % 10) (by omega);simp only [List.singleton_append, List.getD_cons_succ, List.getD_cons_zero];rw [e2]; exact this
  | k + 3, hk => simp at hk; omega
 rw [decide_eq_true Dh];simp
theorem uD {k : Nat} (h : 1 ≤ k ∧ k ≤ 6) : ∃ c : UInt8, xN k = [c] ∧ c ≠ 78 ∧ vW c.toNat true = true := by
 rcases (show k = 1 ∨ k = 2 ∨ k = 3 ∨ k = 4 ∨ k = 5 ∨ k = 6 by omega) with rfl | rfl | rfl | rfl | rfl | rfl
 ·exact ⟨76, rfl, by decide, by decide⟩
 ·exact ⟨81, rfl, by decide, by decide⟩
 ·exact ⟨68, rfl, by decide, by decide⟩
 ·exact ⟨69, rfl, by decide, by decide⟩
 ·exact ⟨83, rfl, by decide, by decide⟩
 ·exact ⟨71, rfl, by decide, by decide⟩
theorem mG {ns : List Nd} (h : ∀ i x, ns[i]? = some x → vS (Un ns i) x = 0) : ∀ (k i : Nat), ns.length - i = k → vC (Un ns i) (ns.drop i) = 0
 | 0, i, hk => by rw [List.drop_eq_nil_of_le (by omega)]; rfl
 | k + 1, i, hk => by
  have hx : ns[i]? = some (ns[i]'(by omega)) := List.getElem?_eq_getElem (by omega);rw [(sO hx (h i _ hx)).1, ← kT hx];exact mG h k (i + 1) (by omega)
theorem mH {ns : List Nd} {ds : List Dv} (h : ∀ j x, ds[j]? = some x → xp ns.length (Ud ns ds j) x = 0) : ∀ (k j : Nat), ds.length - j = k → vm ns.length (Ud ns ds j) (ds.drop j) = 0
 | 0, j, hk => by rw [List.drop_eq_nil_of_le (by omega)]; rfl
 | k + 1, j, hk => by
  have hx : ds[j]? = some (ds[j]'(by omega)) := List.getElem?_eq_getElem (by omega);rw [uW hx (h j _ hx), ← oQ hx];exact mH h k (j + 1) (by omega)
section
variable {nodes AY : Int} {ns : List Nd} {ds : List Dv}
theorem uZ.check (h : uZ nodes AY ns ds) (hn : nodes ≤ 32) (hd : AY ≤ 64) : zR ns ds = 0 := by
 have Hg := h.nm;have VD := h.dm
 have hN := mG (ns := ns) (fun i x hx => by
  obtain ⟨h1, h2, h3, h4, h5⟩ := h.nok i x hx;have hi : i < ns.length := (List.getElem?_eq_some_iff.1 hx).1;unfold vS;rw [h1, vZ, if_neg (by rw [re 78 i (by decide) (by omega)]; simp), if_neg ?_, if_neg (by omega), if_neg (by simp [yh]; omega)];intro hm;obtain ⟨k, y, hk, hy, he⟩ := oA.1 hm;rw [(h.nok k y hy).1, vZ] at he;have := (pz (by omega) (by omega) rfl he).2;omega) _ 0 rfl
 have hD := mH (ns := ns) (ds := ds) (fun j x hx => by
  obtain ⟨h1, h2, h3, h4, h5, h6⟩ := h.dok j x hx;have hj : j < ds.length := (List.getElem?_eq_some_iff.1 hx).1;obtain ⟨c, Ta, KQ, AA⟩ := uD (k := x.kind.toNat) (by omega);unfold xp;rw [h1, vZ, Ta, if_neg (by rw [re c j AA (by omega)]; simp), if_neg ?_, if_neg (by omega), if_neg (by rw [h4]; simp), if_neg (by simp [yh]; omega)];intro hm;rcases oB.1 hm with ⟨k, y, hk, hy, he⟩ | ⟨k, y, hk, hy, he⟩
  ·obtain ⟨g1, g2, g3, _⟩ := h.dok k y hy;obtain ⟨d, BB, _, _⟩ := uD (k := y.kind.toNat) (by omega);rw [g1, vZ, BB] at he;have := (pz (a := [d]) (b := [c]) (i := k) (j := j) (by omega) (by omega) rfl he).2;omega
  ·rw [(h.nok k y hy).1, vZ] at he;have := (pz (a := [78]) (b := [c]) (i := k) (j := j) (by omega) (by omega) rfl he).1;injection this with this;exact KQ this.symm) _ 0 rfl
 unfold zR;rw [if_neg (by omega), if_neg (by omega), if_pos (by simpa [Un] using hN), rP];simpa [Ud, Un] using hD
theorem uZ.names (h : uZ nodes AY ns ds) : FP ns ∧ (∀ x ∈ ds, x.name.size ≤ 9223372036854775807) := by
 constructor
 ·intro x hx;obtain ⟨j, hj⟩ := List.mem_iff_getElem?.1 hx;rw [(h.nok j x hj).1, pm];simp [Dm]
 ·intro x hx;obtain ⟨j, hj⟩ := List.mem_iff_getElem?.1 hx;obtain ⟨h1, h2, h3, _⟩ := h.dok j x hj;obtain ⟨c, hc, _⟩ := uD (k := x.kind.toNat) (by omega);rw [h1, pm, hc];simp [Dm]
end
theorem Laid.grown {w0 w w' : World} {g : Nat} (h : Laid w) (h0 : Laid w0) (hg : w.grownBy w' (some g)) (TV : w0.heap.size ≤ g) : Laid w' :=
 ⟨fun i u hu => (World.cell?_of_block (hg.block _ h.lt.1 (fun e => by have h1 := h0.lt.1; have h2 := Option.some.inj e; simp only at h2; omega))).trans (h.1 i u hu), fun i u hu => (World.cell?_of_block (hg.block _ h.lt.2 (fun e => by have h1 := h0.lt.2; have h2 := Option.some.inj e; simp only at h2; omega))).trans (h.2 i u hu)⟩
end Go.Proofs.YtkkobemhbicjgaaGreatDoor
