import Derived.Test.YtddddlhgaeameaaGreatDoorJ20
set_option maxRecDepth 100000
set_option maxHeartbeats 16000000
namespace Go.Proofs.YtddddlhgaeameaaGreatDoor
open Go.RowKit Tryz
inductive Fi where
 | w (s : ByteArray)
 | d
 | n
 | p
 | k
variable {w : World} {i nd nn : Nat}
def Fi.val : Fi → Value
 | .w s => .iface 171 (.string s)
 | .d => .iface 173 (.agg #[])
 | .n => .iface 176 (.agg #[])
 | .p => .iface 174 (.agg #[])
 | .k => .iface 175 (.agg #[])
def Fi.cells (x : Fi) : List Value := [x.val]
def rW (k : Int) : List Fi :=
 if k = 1 then [.w ⟨#[111, 112, 101, 110]⟩, .d] else if k = 2 then [.w ⟨#[99, 108, 111, 115, 101]⟩, .d] else if k = 3 then [.w ⟨#[108, 111, 99, 107]⟩, .d, .p, .w ⟨#[107, 101, 121]⟩, .k]
 else if k = 4 then [.w ⟨#[117, 110, 108, 111, 99, 107]⟩, .d, .w ⟨#[107, 101, 121]⟩, .k] else if k = 5 then [.w ⟨#[112, 114, 111, 118, 101]⟩, .n] else [.w ⟨#[99, 104, 101, 99, 107]⟩, .d, .p]
theorem jT (k : Int) (h1 : 1 ≤ k) (h6 : k ≤ 6) (w : World) :
 Calls prog 106 #[.int .i64 k] w fun e w' => ∃ (b n : Nat), e = .returned (.slice (some ⟨b, 0, none⟩) n n) ∧ Hid (Av w' 1 (some ⟨b, 0, none⟩) n n ((rW k).flatMap Fi.cells)) ∧ Hid (bW w w') := by
 rcases (show k = 1 ∨ k = 2 ∨ k = 3 ∨ k = 4 ∨ k = 5 ∨ k = 6 by omega) with rfl | rfl | rfl | rfl | rfl | rfl
 all_goals
  go_enter func106, ntmps106
  go_wp2_with fail
  go_ret;refine ⟨_, _, rfl, ?_, (Below.refl _ _).alloc lR _⟩;exact (Sl.newest rfl rfl (by decide)).more (by simp)
theorem iP (k : Int) (h : k < 1 ∨ 6 < k) (w : World) :
 Calls prog 106 #[.int .i64 k] w fun e w' => e = .returned (.slice none 0 0) ∧ w = w' := by
 have q1 : (k == 1) = false := by simpa using by omega
 have q2 : (k == 2) = false := by simpa using by omega
 have q3 : (k == 3) = false := by simpa using by omega
 have q4 : (k == 4) = false := by simpa using by omega
 have q5 : (k == 5) = false := by simpa using by omega
 have q6 : (k == 6) = false := by simpa using by omega
 go_enter func106, ntmps106
 go_wp2_with fail
 go_ret;exact ⟨rfl, rfl⟩
def Sn (nn : Nat) (v : Int) : Bool := decide (0 ≤ v) && decide (v < nn)
theorem mK (An Ad : Option Addr) (nn cn nd cd : Nat) (v : Int) (w : World) (_hnn : nn ≤ 9223372036854775807) :
 Calls prog 131 #[.agg #[.slice An nn cn, .slice Ad nd cd], .int .i64 v] w fun e w' => e = .returned (.bool (Sn nn v)) ∧ bW w w' := by
 have HB := iD ((Below.refl w.heap.size w).alloc lR (.cells #[.slice An nn cn, .slice Ad nd cd] 26));have HE : Hid (Sn nn v = (decide (0 ≤ v) && decide (v < nn))) := rfl;by_cases h0 : 0 ≤ v
 ·have q0 : decide (0 ≤ v) = true := by simpa using h0
  go_enter func131, ntmps131
  go_wp2_with fail
  go_ret;exact ⟨by rw [HE.out, q0]; simp, HB⟩
 ·have q0 : decide (0 ≤ v) = false := by simpa using h0
  go_enter func131, ntmps131
  go_wp2_with fail
  go_ret;exact ⟨by rw [HE.out, q0]; rfl, HB⟩
structure Hs where
 dv : Int
 no : Int
 po : Int
 ke : Int
 b0 : Bool
 b1 : Bool
 b2 : Bool
 b3 : Bool
def ML (nd : Nat) (v : Int) : Bool := decide (v < 0) || decide ((nd : Int) ≤ v)
def PD (v : Int) : Bool := decide (v ≠ 1) && decide (v ≠ 2)
def PE (v : Int) : Bool := decide (v < 0) || decide (65536 < v)
def xz (nn nd : Nat) (h : Hs) : Fi → Hs
 | .w _ => h
 | .d => ⟨0, h.no, h.po, h.ke, ML nd h.dv, h.b1, h.b2, h.b3⟩
 | .n => ⟨h.dv, 0, h.po, h.ke, h.b0, !Sn nn h.no, h.b2, h.b3⟩
 | .p => ⟨h.dv, h.no, 0, h.ke, h.b0, h.b1, PD h.po, h.b3⟩
 | .k => ⟨h.dv, h.no, h.po, 0, h.b0, h.b1, h.b2, PE h.ke⟩
def vG (nn nd : Nat) (fs : List Fi) (h : Hs) : Hs := fs.foldl (xz nn nd) h
def Hs.step (h : Hs) (kd : Int) : Array Value := #[.int .i64 kd, .int .i64 h.dv, .int .i64 h.no, .int .i64 h.po, .int .i64 h.ke]
def Hs.bad (h : Hs) : Array Value := #[.bool h.b0, .bool h.b1, .bool h.b2, .bool h.b3]
structure OU (w : World) (N : Array Value) (kd : Int) (h : Hs) (wr : World) : Prop where
 b0 : AJ wr w.heap.size 26 N
 b1 : AJ wr (w.heap.size + 1) 31 (h.step kd)
 b2 : AJ wr (w.heap.size + 2) 31 #[.int .i64 0, .int .i64 0, .int .i64 0, .int .i64 0, .int .i64 0]
 b3 : AJ wr (w.heap.size + 3) 149 #[.bool false, .bool false, .bool false, .bool false]
 b4 : AJ wr (w.heap.size + 4) 149 h.bad
 bl : bW w wr
section
variable {w wr wr' : World} {N : Array Value} {kd : Int} {h : Hs}
theorem OU.new (w : World) (N : Array Value) (kd : Int) (h : Hs) : OU w N kd ⟨h.dv, h.no, h.po, h.ke, false, false, false, false⟩ (((((w.alloc (.cells N 26)).alloc (.cells (h.step kd) 31)).alloc (.cells #[.int .i64 0, .int .i64 0, .int .i64 0, .int .i64 0, .int .i64 0] 31)).alloc (.cells #[.bool false, .bool false, .bool false, .bool false] 149)).alloc (.cells #[.bool false, .bool false, .bool false, .bool false] 149)) := by
 have h0 := AJ.new w 26 N;generalize e1 : w.alloc (.cells N 26) = w1 at *;have z1 : w1.heap.size = w.heap.size + 1 := by rw [← e1, World.size_alloc]
 have l1 : Below w.heap.size w w1 := by rw [← e1]; exact (Below.refl _ _).alloc lR _
 have h1 := AJ.new w1 31 (h.step kd);have h0 := h0.alloc (.cells (h.step kd) 31);have l2 := l1.alloc (by omega) (.cells (h.step kd) 31);generalize e2 : w1.alloc (.cells (h.step kd) 31) = w2 at *;have z2 : w2.heap.size = w.heap.size + 2 := by rw [← e2, World.size_alloc, z1]
 have h2 := AJ.new w2 31 #[.int .i64 0, .int .i64 0, .int .i64 0, .int .i64 0, .int .i64 0];have h0 := h0.alloc (.cells #[.int .i64 0, .int .i64 0, .int .i64 0, .int .i64 0, .int .i64 0] 31);have h1 := h1.alloc (.cells #[.int .i64 0, .int .i64 0, .int .i64 0, .int .i64 0, .int .i64 0] 31);have l3 := l2.alloc (by omega) (.cells #[.int .i64 0, .int .i64 0, .int .i64 0, .int .i64 0, .int .i64 0] 31);generalize e3 : w2.alloc (.cells #[.int .i64 0, .int .i64 0, .int .i64 0, .int .i64 0, .int .i64 0] 31) = w3 at *;have z3 : w3.heap.size = w.heap.size + 3 := by rw [← e3, World.size_alloc, z2]
 have h3 := AJ.new w3 149 #[.bool false, .bool false, .bool false, .bool false];have h0 := h0.alloc (.cells #[.bool false, .bool false, .bool false, .bool false] 149);have h1 := h1.alloc (.cells #[.bool false, .bool false, .bool false, .bool false] 149);have h2 := h2.alloc (.cells #[.bool false, .bool false, .bool false, .bool false] 149);have l4 := l3.alloc (by omega) (.cells #[.bool false, .bool false, .bool false, .bool false] 149);generalize e4 : w3.alloc (.cells #[.bool false, .bool false, .bool false, .bool false] 149) = w4 at *;have z4 : w4.heap.size = w.heap.size + 4 := by rw [← e4, World.size_alloc, z3]
 have h4 := AJ.new w4 149 #[.bool false, .bool false, .bool false, .bool false];rw [z1] at h1; rw [z2] at h2; rw [z3] at h3; rw [z4] at h4;exact ⟨h0.alloc _, h1.alloc _, h2.alloc _, h3.alloc _, h4, l4.alloc (by omega) _⟩
theorem OU.later (h0 : OU w N kd h wr) (hb : bW wr wr') : OU w N kd h wr' := ⟨h0.b0.below hb h0.b0.lt, h0.b1.below hb h0.b1.lt, h0.b2.below hb h0.b2.lt, h0.b3.below hb h0.b3.lt, h0.b4.below hb h0.b4.lt, h0.bl.trans (hb.mono h0.bl.size)⟩
theorem OU.put (h0 : OU w N kd h wr) (i j : Nat) (u v : Value) {h' : Hs} (e1 : (h.step kd).setIfInBounds j v = h'.step kd) (e2 : h.bad.setIfInBounds i u = h'.bad) : OU w N kd h' ((wr.setCell ⟨w.heap.size + 4, i, none⟩ u).setCell ⟨w.heap.size + 1, j, none⟩ v) :=
 ⟨(h0.b0.far (p := ⟨w.heap.size + 4, i, none⟩) (by simp) u).far (p := ⟨w.heap.size + 1, j, none⟩) (by simp) v, by rw [← e1]; exact (h0.b1.far (p := ⟨w.heap.size + 4, i, none⟩) (by simp) u).set j v,
  (h0.b2.far (p := ⟨w.heap.size + 4, i, none⟩) (by simp) u).far (p := ⟨w.heap.size + 1, j, none⟩) (by simp) v, (h0.b3.far (p := ⟨w.heap.size + 4, i, none⟩) (by simp) u).far (p := ⟨w.heap.size + 1, j, none⟩) (by simp) v,
  by rw [← e2]; exact (h0.b4.set i u).far (p := ⟨w.heap.size + 1, j, none⟩) (by simp) v, (h0.bl.setCell (by simp) u).setCell (by simp) v⟩
end
def tH (w : World) (x : Nat) (a b c d e : Value) : World := ((((w.setCell ⟨x, 0, none⟩ a).setCell ⟨x, 1, none⟩ b).setCell ⟨x, 2, none⟩ c).setCell ⟨x, 3, none⟩ d).setCell ⟨x, 4, none⟩ e
def kX (w : World) (x : Nat) (a b c d : Value) : World := (((w.setCell ⟨x, 0, none⟩ a).setCell ⟨x, 1, none⟩ b).setCell ⟨x, 2, none⟩ c).setCell ⟨x, 3, none⟩ d
section
variable {w : World} {x g : Nat} {t : TypeId} {cs : Array Value} {a b c d e a' b' c' d' e' : Value}
theorem AJ.far5 (h : AJ w g t cs) (hg : g ≠ x) : AJ (tH w x a b c d e) g t cs := ((((h.far (p := ⟨x, 0, none⟩) hg a).far (p := ⟨x, 1, none⟩) hg b).far (p := ⟨x, 2, none⟩) hg c).far (p := ⟨x, 3, none⟩) hg d).far (p := ⟨x, 4, none⟩) hg e
theorem AJ.far4 (h : AJ w g t cs) (hg : g ≠ x) : AJ (kX w x a b c d) g t cs := (((h.far (p := ⟨x, 0, none⟩) hg a).far (p := ⟨x, 1, none⟩) hg b).far (p := ⟨x, 2, none⟩) hg c).far (p := ⟨x, 3, none⟩) hg d
theorem AJ.all5 (h : AJ w x t #[a', b', c', d', e']) : AJ (tH w x a b c d e) x t #[a, b, c, d, e] := ((((h.set 0 a).set 1 b).set 2 c).set 3 d).set 4 e
theorem AJ.all4 (h : AJ w x t #[a', b', c', d']) : AJ (kX w x a b c d) x t #[a, b, c, d] := (((h.set 0 a).set 1 b).set 2 c).set 3 d
theorem mQ {B : Nat} {w0 : World} (h : Below B w0 w) (hx : B ≤ x) : Below B w0 (tH w x a b c d e) := ((((h.setCell (p := ⟨x, 0, none⟩) hx a).setCell (p := ⟨x, 1, none⟩) hx b).setCell (p := ⟨x, 2, none⟩) hx c).setCell (p := ⟨x, 3, none⟩) hx d).setCell (p := ⟨x, 4, none⟩) hx e
theorem mR {B : Nat} {w0 : World} (h : Below B w0 w) (hx : B ≤ x) : Below B w0 (kX w x a b c d) := (((h.setCell (p := ⟨x, 0, none⟩) hx a).setCell (p := ⟨x, 1, none⟩) hx b).setCell (p := ⟨x, 2, none⟩) hx c).setCell (p := ⟨x, 3, none⟩) hx d
end
structure mY (w : World) (kd : Int) (h : Hs) (wr : World) : Prop where
 b1 : AJ wr (w.heap.size + 1) 31 (h.step kd)
 b4 : AJ wr (w.heap.size + 4) 149 h.bad
 b2 : AJ wr (w.heap.size + 2) 31 (h.step kd)
 b3 : AJ wr (w.heap.size + 3) 149 #[.bool false, .bool false, .bool false, .bool false]
 bl : bW w wr
theorem mY.cells {wr : World} {kd dv no po ke : Int} {g0 g1 g2 g3 : Bool} (h : mY w kd ⟨dv, no, po, ke, g0, g1, g2, g3⟩ wr) : (wr.cell? ⟨w.heap.size + 1, 0, none⟩ = some (.int .i64 kd) ∧ wr.cell? ⟨w.heap.size + 1, 1, none⟩ = some (.int .i64 dv) ∧ wr.cell? ⟨w.heap.size + 1, 2, none⟩ = some (.int .i64 no) ∧ wr.cell? ⟨w.heap.size + 1, 3, none⟩ = some (.int .i64 po) ∧ wr.cell? ⟨w.heap.size + 1, 4, none⟩ = some (.int .i64 ke)) ∧ wr.cell? ⟨w.heap.size + 4, 0, none⟩ = some (.bool g0) ∧ wr.cell? ⟨w.heap.size + 4, 1, none⟩ = some (.bool g1) ∧ wr.cell? ⟨w.heap.size + 4, 2, none⟩ = some (.bool g2) ∧ wr.cell? ⟨w.heap.size + 4, 3, none⟩ = some (.bool g3) := ⟨⟨h.b1.cell 0, h.b1.cell 1, h.b1.cell 2, h.b1.cell 3, h.b1.cell 4⟩, h.b4.cell 0, h.b4.cell 1, h.b4.cell 2, h.b4.cell 3⟩
theorem mY.drew {wr : World} {kd : Int} {h : Hs} (h0 : mY w kd h wr) : mY w kd h wr.drew := ⟨h0.b1.below (Below.refl _ _).drew h0.b1.lt, h0.b4.below (Below.refl _ _).drew h0.b4.lt, h0.b2.below (Below.refl _ _).drew h0.b2.lt, h0.b3.below (Below.refl _ _).drew h0.b3.lt, h0.bl.drew⟩
structure fO (w : World) (kd : Int) (h : Hs) (wr : World) : Prop where
 b2 : AJ wr (w.heap.size + 2) 31 (h.step kd)
 b3 : AJ wr (w.heap.size + 3) 149 h.bad
 bl : bW w wr
theorem asD (x : Fi) (W : World) : (Instr.typeAssert x.val 20 173 true).run prog W = .ok (.tuple #[.agg #[], .bool (match x with | .d => true | _ => false)]) W := by cases x <;> kernel_rfl
theorem asN (x : Fi) (W : World) : (Instr.typeAssert x.val 20 176 true).run prog W = .ok (.tuple #[.agg #[], .bool (match x with | .n => true | _ => false)]) W := by cases x <;> kernel_rfl
theorem asP (x : Fi) (W : World) : (Instr.typeAssert x.val 20 174 true).run prog W = .ok (.tuple #[.agg #[], .bool (match x with | .p => true | _ => false)]) W := by cases x <;> kernel_rfl
theorem asK (x : Fi) (W : World) : (Instr.typeAssert x.val 20 175 true).run prog W = .ok (.tuple #[.agg #[], .bool (match x with | .k => true | _ => false)]) W := by cases x <;> kernel_rfl
def HsR (w : World) (N : Array Value) (kd : Int) (fs : List Fi) (h0 : Hs) (nn nd n gk : Nat) (iv : Value) (wr : World) : Prop := ∃ i : Nat, iv = .int .i64 i ∧ i ≤ n ∧ gk = n - i ∧ Hid (OU w N kd (vG nn nd (fs.take i) h0) wr)
theorem lw {fs : List Fi} {h : Hs} {x : Fi} (hx : fs[i]? = some x) : vG nn nd (fs.take (i + 1)) h = xz nn nd (vG nn nd (fs.take i) h) x := by
 unfold vG;rw [zO hx, List.foldl_append, List.foldl_cons, List.foldl_nil]
theorem iN (An Ad Af : Option Addr) (nn cn nd cd n c : Nat) (fs : List Fi) (kd : Int) (h0 : Hs) (w : World) (Fs : h0.b0 = false) (AX : h0.b1 = false) (AQ : h0.b2 = false) (BJ : h0.b3 = false) (hf : Av w 1 Af n c (fs.flatMap Fi.cells)) (Bq : nn ≤ 9223372036854775807) (_hnd : nd ≤ 9223372036854775807) :
 Calls prog 107 #[.agg #[.slice An nn cn, .slice Ad nd cd], .agg (h0.step kd), .slice Af n c] w fun e w' => e = .returned (.tuple #[.agg ((vG nn nd fs h0).step kd), .agg (vG nn nd fs h0).bad]) ∧ bW w w' := by
 have HH := iD (OU.new w #[.slice An nn cn, .slice Ad nd cd] kd h0);have HF := iD hf;have NL := iD (hf.len (fun _ => rfl) (by decide));have Ef := hf.le;rw [show (⟨h0.dv, h0.no, h0.po, h0.ke, false, false, false, false⟩ : Hs) = vG nn nd (fs.take 0) h0 from by cases h0; simp only at Fs AX AQ BJ; subst Fs AX AQ BJ; rfl] at HH;clear hf Fs AX AQ BJ;unfold Hs.step at HH;unfold Hs.step
 go_enter func107, ntmps107
 go_upto_region 2 with (fail);generalize World.alloc (World.alloc (World.alloc (World.alloc (World.alloc w _) _) _) _) _ = W at *;go_upto_region 3 with (fail);rw [show w.heap.size + 1 + 1 = w.heap.size + 2 from rfl, show w.heap.size + 2 + 1 = w.heap.size + 3 from rfl, show w.heap.size + 3 + 1 = w.heap.size + 4 from rfl];refine zm [(9, 0), (0, 1), (1, 0), (0, 2), (56, 1), (1, 0)] 13 (n) (HsR w #[.slice An nn cn, .slice Ad nd cd] kd fs h0 nn nd n) (by (try dsimp only [gt]); exact ⟨0, rfl, Nat.zero_le _, rfl, HH⟩) (by kernel_rfl) ?_;intro u1 Ai gk wr a hrel ha J1 K1 Dk Ky;dsimp only [zY, Go.Proofs.YtddddlhgaeameaaGreatDoor.v1, Nat.reduceAdd] at ha;subst ha;clear HH;obtain ⟨i, rfl, hi, rfl, HM⟩ := hrel;by_cases hlt : i < n; rotate_left
 ·have Ck : decide ((i : Int) < (n : Int)) = false := by simp; omega
  have GM : decide (i < n) = false := by simp; omega
  have Qz : fs.take i = fs := List.take_of_length_le (by have := NL.out; omega);rw [Qz] at HM;clear Qz;obtain ⟨h, hh⟩ := eX (vG nn nd fs h0);rw [← hh] at HM;have HQ := iD hh;clear hh;obtain ⟨dv, no, po, ke, g0, g1, g2, g3⟩ := h;have y0 : ∀ j, wr.frozen? ⟨w.heap.size + 2, j, none⟩ = false := HM.b2.frozen
  have y1 : ∀ j, wr.frozen? ⟨w.heap.size + 3, j, none⟩ = false := HM.b3.frozen
  obtain ⟨c0, c1, c2, c3, c4⟩ := HM.b2.d5;have NF : Hid ((wr.cell? ⟨w.heap.size + 1, 0, none⟩ = some (.int .i64 kd) ∧ wr.cell? ⟨w.heap.size + 1, 1, none⟩ = some (.int .i64 dv) ∧ wr.cell? ⟨w.heap.size + 1, 2, none⟩ = some (.int .i64 no) ∧ wr.cell? ⟨w.heap.size + 1, 3, none⟩ = some (.int .i64 po) ∧ wr.cell? ⟨w.heap.size + 1, 4, none⟩ = some (.int .i64 ke)) ∧ wr.cell? ⟨w.heap.size + 4, 0, none⟩ = some (.bool g0) ∧ wr.cell? ⟨w.heap.size + 4, 1, none⟩ = some (.bool g1) ∧ wr.cell? ⟨w.heap.size + 4, 2, none⟩ = some (.bool g2) ∧ wr.cell? ⟨w.heap.size + 4, 3, none⟩ = some (.bool g3)) := ⟨⟨HM.b1.cell 0, HM.b1.cell 1, HM.b1.cell 2, HM.b1.cell 3, HM.b1.cell 4⟩, HM.b4.cell 0, HM.b4.cell 1, HM.b4.cell 2, HM.b4.cell 3⟩
  have H5 : Hid (mY w kd ⟨dv, no, po, ke, g0, g1, g2, g3⟩ (tH wr (w.heap.size + 2) (.int .i64 kd) (.int .i64 dv) (.int .i64 no) (.int .i64 po) (.int .i64 ke)).drew) := mY.drew ⟨HM.b1.far5 (by omega), HM.b4.far5 (by omega), HM.b2.all5, HM.b3.far5 (by omega), mQ HM.bl (by omega)⟩;unfold tH at H5;go_upto_region 19 with (fail);clear Ck GM
  refine fX (fun W' => (W'.cell? ⟨w.heap.size + 1, 0, none⟩ = some (.int .i64 kd) ∧ W'.cell? ⟨w.heap.size + 1, 1, none⟩ = some (.int .i64 dv) ∧ W'.cell? ⟨w.heap.size + 1, 2, none⟩ = some (.int .i64 no) ∧ W'.cell? ⟨w.heap.size + 1, 3, none⟩ = some (.int .i64 po) ∧ W'.cell? ⟨w.heap.size + 1, 4, none⟩ = some (.int .i64 ke)) ∧ W'.cell? ⟨w.heap.size + 4, 0, none⟩ = some (.bool g0) ∧ W'.cell? ⟨w.heap.size + 4, 1, none⟩ = some (.bool g1) ∧ W'.cell? ⟨w.heap.size + 4, 2, none⟩ = some (.bool g2) ∧ W'.cell? ⟨w.heap.size + 4, 3, none⟩ = some (.bool g3)) [3] ?_ fun AA => ?_
  ·exact NF.out
  try dsimp only at AA
  refine ty 0 71 (mf 4 1) AA (y := by intro w AR; (try dsimp only at AR); obtain ⟨⟨s0, s1, s2, s3, s4⟩, -⟩ := AR; go_simp; try with_reducible rfl) (h := ?_);refine ty 1 72 (mf 4 2) AA (y := by intro w AR; (try dsimp only at AR); obtain ⟨-, s5, s6, s7, s8⟩ := AR; go_simp; try with_reducible rfl) (h := ?_);refine tb 2 (mf 4 3) fun K hK => ?_
  go_simp
  refine hK _ _ (fun _ => H5.cells) fun p => (fun AA => ?_) (p rfl)
  clear p hK K;(try dsimp only at AA);clear y0 c0 c1 c2 c3 c4;generalize World.drew (World.setCell (World.setCell (World.setCell (World.setCell (World.setCell _ _ _) _ _) _ _) _ _) _ _) = w5 at *;have y5 : ∀ j, w5.frozen? ⟨w.heap.size + 3, j, none⟩ = false := H5.b3.frozen
  obtain ⟨d0, d1, d2, d3⟩ := H5.b3.d4;refine tb 3 (mf 4 4) fun K hK => ?_
  go_simp
  refine hK _ _ (fun h => by cases h) (fun _ => ?_)
  try clear AA
  clear hK K;refine tK ?_;have H9 : Hid (fO w kd ⟨dv, no, po, ke, g0, g1, g2, g3⟩ (kX w5 (w.heap.size + 3) (.bool g0) (.bool g1) (.bool g2) (.bool g3))) := ⟨H5.b2.far4 (by omega), H5.b3.all4, mR H5.bl (by omega)⟩;unfold kX at H9
  go_wp2_with fail
  generalize World.setCell (World.setCell (World.setCell (World.setCell _ _ _) _ _) _ _) _ _ = w9 at *;obtain ⟨t0, t1, t2, t3, t4⟩ := H9.b2.d5;obtain ⟨u0, u1, u2, u3⟩ := H9.b3.d4;exact bodyPost_ret (v := .tuple #[.agg #[.int .i64 kd, .int .i64 dv, .int .i64 no, .int .i64 po, .int .i64 ke], .agg #[.bool g0, .bool g1, .bool g2, .bool g3]]) (by simp [results, results107, go_sem, t0, t1, t2, t3, t4, u0, u1, u2, u3]) rfl ⟨by rw [← HQ.out]; rfl, H9.bl⟩
 obtain ⟨be, oe, x, NC, DZ, hx, hc⟩ := (HF.below HM.bl lR).at (fun _ => rfl) (by decide) hlt;have HX := iD hx;have e0 : wr.cell? ⟨be, oe + i, none⟩ = some x.val := by simpa using hc 0 _ rfl
 subst NC;clear hc hx;have HN : Hid (vG nn nd (fs.take (i + 1)) h0 = xz nn nd (vG nn nd (fs.take i) h0) x) := lw HX.out;obtain ⟨h, hh⟩ := eX (vG nn nd (fs.take i) h0);rw [← hh] at HM HN;clear hh HX;obtain ⟨dv, no, po, ke, g0, g1, g2, g3⟩ := h;obtain ⟨n0, n1⟩ := HM.b0.d2;have c1 := HM.b1.c1;have c2 := HM.b1.c2;have c3 := HM.b1.c3;have c4 := HM.b1.c4;obtain ⟨d0, d1, d2, d3⟩ := HM.b4.d4;have y1 : ∀ j, wr.frozen? ⟨w.heap.size + 1, j, none⟩ = false := HM.b1.frozen
 have y4 : ∀ j, wr.frozen? ⟨w.heap.size + 4, j, none⟩ = false := HM.b4.frozen
 have aD := asD x;have aN := asN x;have aP := asP x;have aK := asK x;rcases x with s | _ | _ | _ | _
 ·dsimp only [Fi.val] at e0 aD aN aP aK;have Dm : Hid (OU w #[.slice An nn cn, .slice Ad nd cd] kd (vG nn nd (fs.take (i + 1)) h0) wr) := by unfold Hid; rw [HN.out]; exact HM.out
  go_wp2_with fail
  refine Handed.intro (n - (i + 1)) (by omega) (Dk _ _ _ (xQ.back 13 ?_ (by kernel_rfl)));dsimp only [gt];exact ⟨i + 1, rfl, by omega, rfl, Dm⟩
 ·dsimp only [Fi.val] at e0 aD aN aP aK;have Dm := iD (HM.put 0 1 (.bool (ML nd dv)) (.int .i64 0) (h' := xz nn nd ⟨dv, no, po, ke, g0, g1, g2, g3⟩ .d) rfl rfl);rw [← HN.out] at Dm;clear HM HN;by_cases ha : dv < 0
  ·have q1 : decide (dv < 0) = true := by simpa using ha
   rw [show ML nd dv = true from by simp [ML, ha]] at Dm
   go_wp2_with fail
   refine Handed.intro (n - (i + 1)) (by omega) (Dk _ _ _ (xQ.back 13 ?_ (by kernel_rfl)));dsimp only [gt];exact ⟨i + 1, rfl, by omega, rfl, Dm⟩
  by_cases hb : (nd : Int) ≤ dv
  ·have q1 : decide (dv < 0) = false := by simpa using ha
   have q2 : decide ((nd : Int) ≤ dv) = true := by simpa using hb
   rw [show ML nd dv = true from by simp [ML, hb]] at Dm
   go_wp2_with fail
   refine Handed.intro (n - (i + 1)) (by omega) (Dk _ _ _ (xQ.back 13 ?_ (by kernel_rfl)));dsimp only [gt];exact ⟨i + 1, rfl, by omega, rfl, Dm⟩
  have q1 : decide (dv < 0) = false := by simpa using ha
  have q2 : decide ((nd : Int) ≤ dv) = false := by simpa using hb
  rw [show ML nd dv = false from by simp [ML, ha, hb]] at Dm
  go_wp2_with fail
  refine Handed.intro (n - (i + 1)) (by omega) (Dk _ _ _ (xQ.back 13 ?_ (by kernel_rfl)));dsimp only [gt];exact ⟨i + 1, rfl, by omega, rfl, Dm⟩
 ·dsimp only [Fi.val] at e0 aD aN aP aK;go_upto_region 10 with (fail)
  go_wp2_with fail
  clear n0 n1 c1 c2 c3 c4 d0 d1 d2 d3 y1 y4 e0;refine (mK An Ad nn cn nd cd no wr Bq).mono ?_;rintro e w1 ⟨rfl, AX⟩;have ED := iD (HM.later AX);have Dm := iD (ED.put 1 2 (.bool (!Sn nn no)) (.int .i64 0) (h' := xz nn nd ⟨dv, no, po, ke, g0, g1, g2, g3⟩ .n) rfl rfl);rw [← HN.out] at Dm;have c2 := ED.b1.c2;have d1 := ED.b4.cell 1;have y1 : ∀ j, w1.frozen? ⟨w.heap.size + 1, j, none⟩ = false := ED.b1.frozen
  have y4 : ∀ j, w1.frozen? ⟨w.heap.size + 4, j, none⟩ = false := ED.b4.frozen
  clear HM HN ED AX;generalize Sn nn no = bb at *;rcases bb with _ | _
  ·go_wp2_with fail
   refine Handed.intro (n - (i + 1)) (by omega) (Dk _ _ _ (xQ.back 13 ?_ (by kernel_rfl)));dsimp only [gt];exact ⟨i + 1, rfl, by omega, rfl, Dm⟩
  ·go_wp2_with fail
   refine Handed.intro (n - (i + 1)) (by omega) (Dk _ _ _ (xQ.back 13 ?_ (by kernel_rfl)));dsimp only [gt];exact ⟨i + 1, rfl, by omega, rfl, Dm⟩
 ·dsimp only [Fi.val] at e0 aD aN aP aK;have Dm := iD (HM.put 2 3 (.bool (PD po)) (.int .i64 0) (h' := xz nn nd ⟨dv, no, po, ke, g0, g1, g2, g3⟩ .p) rfl rfl);rw [← HN.out] at Dm;clear HM HN;by_cases ha : po = 1
  ·have q1 : (po != 1) = false := by simpa using ha
   rw [show PD po = false from by simp [PD, ha]] at Dm
   go_wp2_with fail
   refine Handed.intro (n - (i + 1)) (by omega) (Dk _ _ _ (xQ.back 13 ?_ (by kernel_rfl)));dsimp only [gt];exact ⟨i + 1, rfl, by omega, rfl, Dm⟩
  by_cases hb : po = 2
  ·have q1 : (po != 1) = true := by simpa using ha
   have q2 : (po != 2) = false := by simpa using hb
   rw [show PD po = false from by simp [PD, hb]] at Dm
   go_wp2_with fail
   refine Handed.intro (n - (i + 1)) (by omega) (Dk _ _ _ (xQ.back 13 ?_ (by kernel_rfl)));dsimp only [gt];exact ⟨i + 1, rfl, by omega, rfl, Dm⟩
  have q1 : (po != 1) = true := by simpa using ha
  have q2 : (po != 2) = true := by simpa using hb
  rw [show PD po = true from by simp [PD, ha, hb]] at Dm
  go_wp2_with fail
  refine Handed.intro (n - (i + 1)) (by omega) (Dk _ _ _ (xQ.back 13 ?_ (by kernel_rfl)));dsimp only [gt];exact ⟨i + 1, rfl, by omega, rfl, Dm⟩
 ·dsimp only [Fi.val] at e0 aD aN aP aK;have Dm := iD (HM.put 3 4 (.bool (PE ke)) (.int .i64 0) (h' := xz nn nd ⟨dv, no, po, ke, g0, g1, g2, g3⟩ .k) rfl rfl);rw [← HN.out] at Dm;clear HM HN;by_cases ha : ke < 0
  ·have q1 : decide (ke < 0) = true := by simpa using ha
   rw [show PE ke = true from by simp [PE, ha]] at Dm
   go_wp2_with fail
   refine Handed.intro (n - (i + 1)) (by omega) (Dk _ _ _ (xQ.back 13 ?_ (by kernel_rfl)));dsimp only [gt];exact ⟨i + 1, rfl, by omega, rfl, Dm⟩
  by_cases hb : 65536 < ke
  ·have q1 : decide (ke < 0) = false := by simpa using ha
   have q2 : decide (65536 < ke) = true := by simpa using hb
   rw [show PE ke = true from by simp [PE, hb]] at Dm
   go_wp2_with fail
   refine Handed.intro (n - (i + 1)) (by omega) (Dk _ _ _ (xQ.back 13 ?_ (by kernel_rfl)));dsimp only [gt];exact ⟨i + 1, rfl, by omega, rfl, Dm⟩
  have q1 : decide (ke < 0) = false := by simpa using ha
  have q2 : decide (65536 < ke) = false := by simpa using hb
  rw [show PE ke = false from by simp [PE, ha, hb]] at Dm
  go_wp2_with fail
  refine Handed.intro (n - (i + 1)) (by omega) (Dk _ _ _ (xQ.back 13 ?_ (by kernel_rfl)));dsimp only [gt];exact ⟨i + 1, rfl, by omega, rfl, Dm⟩
section
variable (nn nd : Nat) (d no p q : Int)
theorem oA : zc nn nd ⟨1, d, no, p, q⟩ = if d < 0 ∨ (nd : Int) ≤ d then 8 else if no ≠ 0 ∨ p ≠ 0 ∨ q ≠ 0 then 14 else 0 := by (unfold zc Sp.posB Sp.keyB; simp only []; (repeat' split) <;> first | rfl | omega | (exfalso; simp at *; done) | (exfalso; simp at *; omega))
theorem pz : zc nn nd ⟨2, d, no, p, q⟩ = if d < 0 ∨ (nd : Int) ≤ d then 8 else if no ≠ 0 ∨ p ≠ 0 ∨ q ≠ 0 then 14 else 0 := by (unfold zc Sp.posB Sp.keyB; simp only []; (repeat' split) <;> first | rfl | omega | (exfalso; simp at *; done) | (exfalso; simp at *; omega))
theorem td : zc nn nd ⟨3, d, no, p, q⟩ = if d < 0 ∨ (nd : Int) ≤ d then 8 else if p ≠ 1 ∧ p ≠ 2 then 10 else if q < 0 ∨ 65536 < q then 5 else if no ≠ 0 then 14 else 0 := by (unfold zc Sp.posB Sp.keyB; simp only []; (repeat' split) <;> first | rfl | omega | (exfalso; simp at *; done) | (exfalso; simp at *; omega))
theorem pI : zc nn nd ⟨4, d, no, p, q⟩ = if d < 0 ∨ (nd : Int) ≤ d then 8 else if q < 0 ∨ 65536 < q then 5 else if no ≠ 0 ∨ p ≠ 0 then 14 else 0 := by (unfold zc Sp.posB Sp.keyB; simp only []; (repeat' split) <;> first | rfl | omega | (exfalso; simp at *; done) | (exfalso; simp at *; omega))
theorem py : zc nn nd ⟨5, d, no, p, q⟩ = if no < 0 ∨ (nn : Int) ≤ no then 7 else if d ≠ 0 ∨ p ≠ 0 ∨ q ≠ 0 then 14 else 0 := by (unfold zc Sp.posB Sp.keyB; simp only []; (repeat' split) <;> first | rfl | omega | (exfalso; simp at *; done) | (exfalso; simp at *; omega))
theorem rA : zc nn nd ⟨6, d, no, p, q⟩ = if d < 0 ∨ (nd : Int) ≤ d then 8 else if p ≠ 1 ∧ p ≠ 2 then 10 else if no ≠ 0 ∨ q ≠ 0 then 14 else 0 := by (unfold zc Sp.posB Sp.keyB; simp only []; (repeat' split) <;> first | rfl | omega | (exfalso; simp at *; done) | (exfalso; simp at *; omega))
theorem il {k : Int} (h : k < 1 ∨ 6 < k) : zc nn nd ⟨k, d, no, p, q⟩ = 6 := by unfold zc; rw [if_pos h]
end
theorem pQ (An Ad : Option Addr) (nn cn nd cd : Nat) (k d no p q : Int) (w : World) (_hnn : nn ≤ 9223372036854775807) (_hnd : nd ≤ 9223372036854775807) :
 Calls prog 53 #[.agg #[.slice An nn cn, .slice Ad nd cd], .agg #[.int .i64 k, .int .i64 d, .int .i64 no, .int .i64 p, .int .i64 q]] w fun e w' => e = .returned (.int .i64 (zc nn nd ⟨k, d, no, p, q⟩)) ∧ bW w w' := by
 have HB : Hid (Below w.heap.size w ((w.alloc (.cells #[.slice An nn cn, .slice Ad nd cd] 26)).alloc (.cells #[.int .i64 k, .int .i64 d, .int .i64 no, .int .i64 p, .int .i64 q] 31))) := ((Below.refl _ _).alloc lR _).alloc (by simp) _;by_cases Ab : k < 1
 ·have q0 : decide (k < 1) = true := by simp; omega
  go_enter func53, ntmps53
  go_wp2_with fail
  go_ret;exact ⟨zC (by rw [il nn nd d no p q (.inl Ab)]), HB⟩
 by_cases Aa : 6 < k
 ·have q0 : decide (k < 1) = false := by simp; omega
  have q1 : decide (6 < k) = true := by simp; omega
  go_enter func53, ntmps53
  go_wp2_with fail
  go_ret;exact ⟨zC (by rw [il nn nd d no p q (.inr Aa)]), HB⟩
 rcases (show k = 1 ∨ k = 2 ∨ k = 3 ∨ k = 4 ∨ k = 5 ∨ k = 6 by omega) with rfl | rfl | rfl | rfl | rfl | rfl
 ·by_cases a0 : d < 0
  ·have q0 : decide (d < 0) = true := by simp; omega
   go_enter func53, ntmps53
   go_wp2_with fail
   go_ret;exact ⟨zC (by rw [oA, if_pos (by omega)]), HB⟩
  by_cases b0 : (nd : Int) ≤ d
  ·have q0 : decide (d < 0) = false := by simp; omega
   have q1 : decide ((nd : Int) ≤ d) = true := by simp; omega
   go_enter func53, ntmps53
   go_wp2_with fail
   go_ret;exact ⟨zC (by rw [oA, if_pos (by omega)]), HB⟩
  by_cases UI : no ≠ 0
  ·have q0 : decide (d < 0) = false := by simp; omega
   have q1 : decide ((nd : Int) ≤ d) = false := by simp; omega
   have q2 : (no != 0) = true := by simp; omega
   go_enter func53, ntmps53
   go_wp2_with fail
   go_ret;exact ⟨zC (by rw [oA, if_neg (by omega), if_pos (by omega)]), HB⟩
  by_cases zp : p ≠ 0
  ·have q0 : decide (d < 0) = false := by simp; omega
   have q1 : decide ((nd : Int) ≤ d) = false := by simp; omega
   have q2 : (no != 0) = false := by simp; omega
   have q3 : (p != 0) = true := by simp; omega
   go_enter func53, ntmps53
   go_wp2_with fail
   go_ret;exact ⟨zC (by rw [oA, if_neg (by omega), if_pos (by omega)]), HB⟩
  by_cases zq : q ≠ 0
  ·have q0 : decide (d < 0) = false := by simp; omega
   have q1 : decide ((nd : Int) ≤ d) = false := by simp; omega
   have q2 : (no != 0) = false := by simp; omega
   have q3 : (p != 0) = false := by simp; omega
   have q4 : (q != 0) = true := by simp; omega
   go_enter func53, ntmps53
   go_wp2_with fail
   go_ret;exact ⟨zC (by rw [oA, if_neg (by omega), if_pos (by omega)]), HB⟩
  have q0 : decide (d < 0) = false := by simp; omega
  have q1 : decide ((nd : Int) ≤ d) = false := by simp; omega
  have q2 : (no != 0) = false := by simp; omega
  have q3 : (p != 0) = false := by simp; omega
  have q4 : (q != 0) = false := by simp; omega
  go_enter func53, ntmps53
  go_wp2_with fail
  go_ret;exact ⟨zC (by rw [oA, if_neg (by omega), if_neg (by omega)]), HB⟩
 ·by_cases a0 : d < 0
  ·have q0 : decide (d < 0) = true := by simp; omega
   go_enter func53, ntmps53
   go_wp2_with fail
   go_ret;exact ⟨zC (by rw [pz, if_pos (by omega)]), HB⟩
  by_cases b0 : (nd : Int) ≤ d
  ·have q0 : decide (d < 0) = false := by simp; omega
   have q1 : decide ((nd : Int) ≤ d) = true := by simp; omega
   go_enter func53, ntmps53
   go_wp2_with fail
   go_ret;exact ⟨zC (by rw [pz, if_pos (by omega)]), HB⟩
  by_cases UI : no ≠ 0
  ·have q0 : decide (d < 0) = false := by simp; omega
   have q1 : decide ((nd : Int) ≤ d) = false := by simp; omega
   have q2 : (no != 0) = true := by simp; omega
   go_enter func53, ntmps53
   go_wp2_with fail
   go_ret;exact ⟨zC (by rw [pz, if_neg (by omega), if_pos (by omega)]), HB⟩
  by_cases zp : p ≠ 0
  ·have q0 : decide (d < 0) = false := by simp; omega
   have q1 : decide ((nd : Int) ≤ d) = false := by simp; omega
   have q2 : (no != 0) = false := by simp; omega
   have q3 : (p != 0) = true := by simp; omega
   go_enter func53, ntmps53
   go_wp2_with fail
   go_ret;exact ⟨zC (by rw [pz, if_neg (by omega), if_pos (by omega)]), HB⟩
  by_cases zq : q ≠ 0
  ·have q0 : decide (d < 0) = false := by simp; omega
   have q1 : decide ((nd : Int) ≤ d) = false := by simp; omega
   have q2 : (no != 0) = false := by simp; omega
   have q3 : (p != 0) = false := by simp; omega
   have q4 : (q != 0) = true := by simp; omega
   go_enter func53, ntmps53
   go_wp2_with fail
   go_ret;exact ⟨zC (by rw [pz, if_neg (by omega), if_pos (by omega)]), HB⟩
  have q0 : decide (d < 0) = false := by simp; omega
  have q1 : decide ((nd : Int) ≤ d) = false := by simp; omega
  have q2 : (no != 0) = false := by simp; omega
  have q3 : (p != 0) = false := by simp; omega
  have q4 : (q != 0) = false := by simp; omega
  go_enter func53, ntmps53
  go_wp2_with fail
  go_ret;exact ⟨zC (by rw [pz, if_neg (by omega), if_neg (by omega)]), HB⟩
 ·by_cases a0 : d < 0
  ·have q0 : decide (d < 0) = true := by simp; omega
   go_enter func53, ntmps53
   go_wp2_with fail
   go_ret;exact ⟨zC (by rw [td, if_pos (by omega)]), HB⟩
  by_cases b0 : (nd : Int) ≤ d
  ·have q0 : decide (d < 0) = false := by simp; omega
   have q1 : decide ((nd : Int) ≤ d) = true := by simp; omega
   go_enter func53, ntmps53
   go_wp2_with fail
   go_ret;exact ⟨zC (by rw [td, if_pos (by omega)]), HB⟩
  by_cases hp : p ≠ 1 ∧ p ≠ 2
  ·have q0 : decide (d < 0) = false := by simp; omega
   have q1 : decide ((nd : Int) ≤ d) = false := by simp; omega
   have q2 : (p != 1) = true := by simp; omega
   have q3 : (p != 2) = true := by simp; omega
   go_enter func53, ntmps53
   go_wp2_with fail
   go_ret;exact ⟨zC (by rw [td, if_neg (by omega), if_pos (by omega)]), HB⟩
  by_cases PK : p = 1
  ·subst PK;by_cases a2 : q < 0
   ·have q0 : decide (d < 0) = false := by simp; omega
    have q1 : decide ((nd : Int) ≤ d) = false := by simp; omega
    have q2 : decide (q < 0) = true := by simp; omega
    go_enter func53, ntmps53
    go_wp2_with fail
    go_ret;exact ⟨zC (by rw [td, if_neg (by omega), if_neg (by omega), if_pos (by omega)]), HB⟩
   by_cases b2 : 65536 < q
   ·have q0 : decide (d < 0) = false := by simp; omega
    have q1 : decide ((nd : Int) ≤ d) = false := by simp; omega
    have q2 : decide (q < 0) = false := by simp; omega
    have q3 : decide (65536 < q) = true := by simp; omega
    go_enter func53, ntmps53
    go_wp2_with fail
    go_ret;exact ⟨zC (by rw [td, if_neg (by omega), if_neg (by omega), if_pos (by omega)]), HB⟩
   by_cases UI : no ≠ 0
   ·have q0 : decide (d < 0) = false := by simp; omega
    have q1 : decide ((nd : Int) ≤ d) = false := by simp; omega
    have q2 : decide (q < 0) = false := by simp; omega
    have q3 : decide (65536 < q) = false := by simp; omega
    have q4 : (no != 0) = true := by simp; omega
    go_enter func53, ntmps53
    go_wp2_with fail
    go_ret;exact ⟨zC (by rw [td, if_neg (by omega), if_neg (by omega), if_neg (by omega), if_pos (by omega)]), HB⟩
   have q0 : decide (d < 0) = false := by simp; omega
   have q1 : decide ((nd : Int) ≤ d) = false := by simp; omega
   have q2 : decide (q < 0) = false := by simp; omega
   have q3 : decide (65536 < q) = false := by simp; omega
   have q4 : (no != 0) = false := by simp; omega
   go_enter func53, ntmps53
   go_wp2_with fail
   go_ret;exact ⟨zC (by rw [td, if_neg (by omega), if_neg (by omega), if_neg (by omega), if_neg (by omega)]), HB⟩
  have PI : p = 2 := by omega
  subst PI;by_cases a2 : q < 0
  ·have q0 : decide (d < 0) = false := by simp; omega
   have q1 : decide ((nd : Int) ≤ d) = false := by simp; omega
   have q2 : decide (q < 0) = true := by simp; omega
   go_enter func53, ntmps53
   go_wp2_with fail
   go_ret;exact ⟨zC (by rw [td, if_neg (by omega), if_neg (by omega), if_pos (by omega)]), HB⟩
  by_cases b2 : 65536 < q
  ·have q0 : decide (d < 0) = false := by simp; omega
   have q1 : decide ((nd : Int) ≤ d) = false := by simp; omega
   have q2 : decide (q < 0) = false := by simp; omega
   have q3 : decide (65536 < q) = true := by simp; omega
   go_enter func53, ntmps53
   go_wp2_with fail
   go_ret;exact ⟨zC (by rw [td, if_neg (by omega), if_neg (by omega), if_pos (by omega)]), HB⟩
  by_cases UI : no ≠ 0
  ·have q0 : decide (d < 0) = false := by simp; omega
   have q1 : decide ((nd : Int) ≤ d) = false := by simp; omega
   have q2 : decide (q < 0) = false := by simp; omega
   have q3 : decide (65536 < q) = false := by simp; omega
   have q4 : (no != 0) = true := by simp; omega
   go_enter func53, ntmps53
   go_wp2_with fail
   go_ret;exact ⟨zC (by rw [td, if_neg (by omega), if_neg (by omega), if_neg (by omega), if_pos (by omega)]), HB⟩
  have q0 : decide (d < 0) = false := by simp; omega
  have q1 : decide ((nd : Int) ≤ d) = false := by simp; omega
  have q2 : decide (q < 0) = false := by simp; omega
  have q3 : decide (65536 < q) = false := by simp; omega
  have q4 : (no != 0) = false := by simp; omega
  go_enter func53, ntmps53
  go_wp2_with fail
  go_ret;exact ⟨zC (by rw [td, if_neg (by omega), if_neg (by omega), if_neg (by omega), if_neg (by omega)]), HB⟩
 ·by_cases a0 : d < 0
  ·have q0 : decide (d < 0) = true := by simp; omega
   go_enter func53, ntmps53
   go_wp2_with fail
   go_ret;exact ⟨zC (by rw [pI, if_pos (by omega)]), HB⟩
  by_cases b0 : (nd : Int) ≤ d
  ·have q0 : decide (d < 0) = false := by simp; omega
   have q1 : decide ((nd : Int) ≤ d) = true := by simp; omega
   go_enter func53, ntmps53
   go_wp2_with fail
   go_ret;exact ⟨zC (by rw [pI, if_pos (by omega)]), HB⟩
  by_cases a1 : q < 0
  ·have q0 : decide (d < 0) = false := by simp; omega
   have q1 : decide ((nd : Int) ≤ d) = false := by simp; omega
   have q2 : decide (q < 0) = true := by simp; omega
   go_enter func53, ntmps53
   go_wp2_with fail
   go_ret;exact ⟨zC (by rw [pI, if_neg (by omega), if_pos (by omega)]), HB⟩
  by_cases b1 : 65536 < q
  ·have q0 : decide (d < 0) = false := by simp; omega
   have q1 : decide ((nd : Int) ≤ d) = false := by simp; omega
   have q2 : decide (q < 0) = false := by simp; omega
   have q3 : decide (65536 < q) = true := by simp; omega
   go_enter func53, ntmps53
   go_wp2_with fail
   go_ret;exact ⟨zC (by rw [pI, if_neg (by omega), if_pos (by omega)]), HB⟩
  by_cases UI : no ≠ 0
  ·have q0 : decide (d < 0) = false := by simp; omega
   have q1 : decide ((nd : Int) ≤ d) = false := by simp; omega
   have q2 : decide (q < 0) = false := by simp; omega
   have q3 : decide (65536 < q) = false := by simp; omega
   have q4 : (no != 0) = true := by simp; omega
   go_enter func53, ntmps53
   go_wp2_with fail
   go_ret;exact ⟨zC (by rw [pI, if_neg (by omega), if_neg (by omega), if_pos (by omega)]), HB⟩
  by_cases zp : p ≠ 0
  ·have q0 : decide (d < 0) = false := by simp; omega
   have q1 : decide ((nd : Int) ≤ d) = false := by simp; omega
   have q2 : decide (q < 0) = false := by simp; omega
   have q3 : decide (65536 < q) = false := by simp; omega
   have q4 : (no != 0) = false := by simp; omega
   have q5 : (p != 0) = true := by simp; omega
   go_enter func53, ntmps53
   go_wp2_with fail
   go_ret;exact ⟨zC (by rw [pI, if_neg (by omega), if_neg (by omega), if_pos (by omega)]), HB⟩
  have q0 : decide (d < 0) = false := by simp; omega
  have q1 : decide ((nd : Int) ≤ d) = false := by simp; omega
  have q2 : decide (q < 0) = false := by simp; omega
  have q3 : decide (65536 < q) = false := by simp; omega
  have q4 : (no != 0) = false := by simp; omega
  have q5 : (p != 0) = false := by simp; omega
  go_enter func53, ntmps53
  go_wp2_with fail
  go_ret;exact ⟨zC (by rw [pI, if_neg (by omega), if_neg (by omega), if_neg (by omega)]), HB⟩
 ·by_cases a0 : no < 0
  ·have q0 : decide (no < 0) = true := by simp; omega
   go_enter func53, ntmps53
   go_wp2_with fail
   go_ret;exact ⟨zC (by rw [py, if_pos (by omega)]), HB⟩
  by_cases b0 : (nn : Int) ≤ no
  ·have q0 : decide (no < 0) = false := by simp; omega
   have q1 : decide ((nn : Int) ≤ no) = true := by simp; omega
   go_enter func53, ntmps53
   go_wp2_with fail
   go_ret;exact ⟨zC (by rw [py, if_pos (by omega)]), HB⟩
  by_cases zd : d ≠ 0
  ·have q0 : decide (no < 0) = false := by simp; omega
   have q1 : decide ((nn : Int) ≤ no) = false := by simp; omega
   have q2 : (d != 0) = true := by simp; omega
   go_enter func53, ntmps53
   go_wp2_with fail
   go_ret;exact ⟨zC (by rw [py, if_neg (by omega), if_pos (by omega)]), HB⟩
  by_cases zp : p ≠ 0
  ·have q0 : decide (no < 0) = false := by simp; omega
   have q1 : decide ((nn : Int) ≤ no) = false := by simp; omega
   have q2 : (d != 0) = false := by simp; omega
   have q3 : (p != 0) = true := by simp; omega
   go_enter func53, ntmps53
   go_wp2_with fail
   go_ret;exact ⟨zC (by rw [py, if_neg (by omega), if_pos (by omega)]), HB⟩
  by_cases zq : q ≠ 0
  ·have q0 : decide (no < 0) = false := by simp; omega
   have q1 : decide ((nn : Int) ≤ no) = false := by simp; omega
   have q2 : (d != 0) = false := by simp; omega
   have q3 : (p != 0) = false := by simp; omega
   have q4 : (q != 0) = true := by simp; omega
   go_enter func53, ntmps53
   go_wp2_with fail
   go_ret;exact ⟨zC (by rw [py, if_neg (by omega), if_pos (by omega)]), HB⟩
  have q0 : decide (no < 0) = false := by simp; omega
  have q1 : decide ((nn : Int) ≤ no) = false := by simp; omega
  have q2 : (d != 0) = false := by simp; omega
  have q3 : (p != 0) = false := by simp; omega
  have q4 : (q != 0) = false := by simp; omega
  go_enter func53, ntmps53
  go_wp2_with fail
  go_ret;exact ⟨zC (by rw [py, if_neg (by omega), if_neg (by omega)]), HB⟩
 ·by_cases a0 : d < 0
  ·have q0 : decide (d < 0) = true := by simp; omega
   go_enter func53, ntmps53
   go_wp2_with fail
   go_ret;exact ⟨zC (by rw [rA, if_pos (by omega)]), HB⟩
  by_cases b0 : (nd : Int) ≤ d
  ·have q0 : decide (d < 0) = false := by simp; omega
   have q1 : decide ((nd : Int) ≤ d) = true := by simp; omega
   go_enter func53, ntmps53
   go_wp2_with fail
   go_ret;exact ⟨zC (by rw [rA, if_pos (by omega)]), HB⟩
  by_cases hp : p ≠ 1 ∧ p ≠ 2
  ·have q0 : decide (d < 0) = false := by simp; omega
   have q1 : decide ((nd : Int) ≤ d) = false := by simp; omega
   have q2 : (p != 1) = true := by simp; omega
   have q3 : (p != 2) = true := by simp; omega
   go_enter func53, ntmps53
   go_wp2_with fail
   go_ret;exact ⟨zC (by rw [rA, if_neg (by omega), if_pos (by omega)]), HB⟩
  by_cases PK : p = 1
  ·subst PK;by_cases UI : no ≠ 0
   ·have q0 : decide (d < 0) = false := by simp; omega
    have q1 : decide ((nd : Int) ≤ d) = false := by simp; omega
    have q2 : (no != 0) = true := by simp; omega
    go_enter func53, ntmps53
    go_wp2_with fail
    go_ret;exact ⟨zC (by rw [rA, if_neg (by omega), if_neg (by omega), if_pos (by omega)]), HB⟩
   by_cases zq : q ≠ 0
   ·have q0 : decide (d < 0) = false := by simp; omega
    have q1 : decide ((nd : Int) ≤ d) = false := by simp; omega
    have q2 : (no != 0) = false := by simp; omega
    have q3 : (q != 0) = true := by simp; omega
    go_enter func53, ntmps53
    go_wp2_with fail
    go_ret;exact ⟨zC (by rw [rA, if_neg (by omega), if_neg (by omega), if_pos (by omega)]), HB⟩
   have q0 : decide (d < 0) = false := by simp; omega
   have q1 : decide ((nd : Int) ≤ d) = false := by simp; omega
   have q2 : (no != 0) = false := by simp; omega
   have q3 : (q != 0) = false := by simp; omega
   go_enter func53, ntmps53
   go_wp2_with fail
   go_ret;exact ⟨zC (by rw [rA, if_neg (by omega), if_neg (by omega), if_neg (by omega)]), HB⟩
  have PI : p = 2 := by omega
  subst PI;by_cases UI : no ≠ 0
  ·have q0 : decide (d < 0) = false := by simp; omega
   have q1 : decide ((nd : Int) ≤ d) = false := by simp; omega
   have q2 : (no != 0) = true := by simp; omega
   go_enter func53, ntmps53
   go_wp2_with fail
   go_ret;exact ⟨zC (by rw [rA, if_neg (by omega), if_neg (by omega), if_pos (by omega)]), HB⟩
  by_cases zq : q ≠ 0
  ·have q0 : decide (d < 0) = false := by simp; omega
   have q1 : decide ((nd : Int) ≤ d) = false := by simp; omega
   have q2 : (no != 0) = false := by simp; omega
   have q3 : (q != 0) = true := by simp; omega
   go_enter func53, ntmps53
   go_wp2_with fail
   go_ret;exact ⟨zC (by rw [rA, if_neg (by omega), if_neg (by omega), if_pos (by omega)]), HB⟩
  have q0 : decide (d < 0) = false := by simp; omega
  have q1 : decide ((nd : Int) ≤ d) = false := by simp; omega
  have q2 : (no != 0) = false := by simp; omega
  have q3 : (q != 0) = false := by simp; omega
  go_enter func53, ntmps53
  go_wp2_with fail
  go_ret;exact ⟨zC (by rw [rA, if_neg (by omega), if_neg (by omega), if_neg (by omega)]), HB⟩
def vl (h : Hs) : Int := if h.b0 then 8 else if h.b1 then 7 else if h.b2 then 10 else if h.b3 then 5 else if h.dv ≠ 0 ∨ h.no ≠ 0 ∨ h.po ≠ 0 ∨ h.ke ≠ 0 then 14 else 0
theorem jO {k d no p q : Int} (h1 : 1 ≤ k) (h6 : k ≤ 6) : vl (vG nn nd (rW k) ⟨d, no, p, q, false, false, false, false⟩) = zc nn nd ⟨k, d, no, p, q⟩ := by
 rcases (show k = 1 ∨ k = 2 ∨ k = 3 ∨ k = 4 ∨ k = 5 ∨ k = 6 by omega) with rfl | rfl | rfl | rfl | rfl | rfl
 ·rw [oA]; simp [vl, vG, rW, xz, ML]
 ·rw [pz]; simp [vl, vG, rW, xz, ML]
 ·rw [td]; simp [vl, vG, rW, xz, ML, PD, PE]
 ·rw [pI]; simp [vl, vG, rW, xz, ML, PE]
 ·rw [py]
  have e : (!Sn nn no) = (decide (no < 0) || decide ((nn : Int) ≤ no)) := by
   unfold Sn;by_cases a : no < 0 <;> by_cases b : (nn : Int) ≤ no <;> simp [a, b] <;> omega
  simp only [vl, vG, rW];simp [xz, e]
 ·rw [rA]; simp [vl, vG, rW, xz, ML, PD]
theorem tJ (A : Option Addr) (n c : Nat) (w : World) : (binOp BinOp.eql 147 (.slice A n c) (.slice none 0 0)).run prog w = .ok (.bool A.isNone) w := by cases A <;> kernel_rfl
def Sp.eqB (x y : Sp) : Bool := x.kind == y.kind && x.dev == y.dev && x.node == y.node && x.pos == y.pos && x.key == y.key
theorem nZ (k d no p q k2 d2 AB p2 q2 : Int) (w : World) : (binOp .neq 31 (.agg #[.int .i64 k, .int .i64 d, .int .i64 no, .int .i64 p, .int .i64 q]) (.agg #[.int .i64 k2, .int .i64 d2, .int .i64 AB, .int .i64 p2, .int .i64 q2])).run prog w = .ok (.bool (!Sp.eqB ⟨k, d, no, p, q⟩ ⟨k2, d2, AB, p2, q2⟩)) w := by
 have u3 := underlying3;have a3 := isAgg3;have z3 := sizeOf3;have hS : prog.underlying 31 = some (.struct (prog.fieldsOf 31)) := by kernel_rfl
 have hp : prog.stoodInHeld 31 = false := by kernel_rfl
 rw [run_neq_struct, show (10000 : Nat) = 9999 + 1 from rfl, run_equalIn_agg w 9999 31 _ _ hS hp];simp only [Program.fieldsOf, underlying31]
 go_simp
 by_cases h0 : k = k2 <;> by_cases h1 : d = d2 <;> by_cases h2 : no = AB <;> by_cases h3 : p = p2 <;> by_cases h4 : q = q2 <;> simp [h0, h1, h2, h3, h4, Sp.eqB]
theorem QT.new (w : World) (k dv nv po ke : Int) (g0 g1 g2 g3 : Bool) : AJ ((w.alloc (.cells #[.int .i64 k, .int .i64 dv, .int .i64 nv, .int .i64 po, .int .i64 ke] 31)).alloc (.cells #[.bool g0, .bool g1, .bool g2, .bool g3] 149)) w.heap.size 31 #[.int .i64 k, .int .i64 dv, .int .i64 nv, .int .i64 po, .int .i64 ke] ∧ AJ ((w.alloc (.cells #[.int .i64 k, .int .i64 dv, .int .i64 nv, .int .i64 po, .int .i64 ke] 31)).alloc (.cells #[.bool g0, .bool g1, .bool g2, .bool g3] 149)) (w.heap.size + 1) 149 #[.bool g0, .bool g1, .bool g2, .bool g3] :=
 ⟨(AJ.new w _ _).alloc _, by have := AJ.new (w.alloc (.cells #[.int .i64 k, .int .i64 dv, .int .i64 nv, .int .i64 po, .int .i64 ke] 31)) 149 #[.bool g0, .bool g1, .bool g2, .bool g3]; simpa using this⟩
theorem gR (w : World) : (Instr.index 152 (.agg #[.int .i64 8, .int .i64 7, .int .i64 10, .int .i64 5]) (.int .i64 0)).run prog w = .ok (.int .i64 8) w := by kernel_rfl
theorem gQ (w : World) : (Instr.index 152 (.agg #[.int .i64 8, .int .i64 7, .int .i64 10, .int .i64 5]) (.int .i64 1)).run prog w = .ok (.int .i64 7) w := by kernel_rfl
theorem gP (w : World) : (Instr.index 152 (.agg #[.int .i64 8, .int .i64 7, .int .i64 10, .int .i64 5]) (.int .i64 2)).run prog w = .ok (.int .i64 10) w := by kernel_rfl
theorem gO (w : World) : (Instr.index 152 (.agg #[.int .i64 8, .int .i64 7, .int .i64 10, .int .i64 5]) (.int .i64 3)).run prog w = .ok (.int .i64 5) w := by kernel_rfl
def PsR (g0 g1 g2 g3 : Bool) (V : World) (gk : Nat) (iv : Value) (wr : World) : Prop := ∃ i : Int, iv = .int .i64 i ∧ (0 ≤ i ∧ i ≤ 4) ∧ gk = 4 - i.toNat ∧ wr = V ∧ (0 < i → g0 = false) ∧ (1 < i → g1 = false) ∧ (2 < i → g2 = false) ∧ (3 < i → g3 = false)
theorem lf (An Ad : Option Addr) (nn cn nd cd : Nat) (k d no p q : Int) (w : World) (Bq : nn ≤ 9223372036854775807) (AE : nd ≤ 9223372036854775807) :
 Calls prog 85 #[.agg #[.slice An nn cn, .slice Ad nd cd], .agg #[.int .i64 k, .int .i64 d, .int .i64 no, .int .i64 p, .int .i64 q]] w fun e w' => e = .returned (.int .i64 (zc nn nd ⟨k, d, no, p, q⟩)) ∧ bW w w' := by
 have HB : Hid (Below w.heap.size w ((w.alloc (.cells #[.slice An nn cn, .slice Ad nd cd] 26)).alloc (.cells #[.int .i64 k, .int .i64 d, .int .i64 no, .int .i64 p, .int .i64 q] 31))) := ((Below.refl _ _).alloc lR _).alloc (by simp) _;have Bi := iD ((AJ.new w 26 #[.slice An nn cn, .slice Ad nd cd]).alloc (.cells #[.int .i64 k, .int .i64 d, .int .i64 no, .int .i64 p, .int .i64 q] 31))
 have AL : Hid (AJ ((w.alloc (.cells #[.slice An nn cn, .slice Ad nd cd] 26)).alloc (.cells #[.int .i64 k, .int .i64 d, .int .i64 no, .int .i64 p, .int .i64 q] 31)) (w.heap.size + 1) 31 #[.int .i64 k, .int .i64 d, .int .i64 no, .int .i64 p, .int .i64 q]) := by
  have := AJ.new (w.alloc (.cells #[.slice An nn cn, .slice Ad nd cd] 26)) 31 #[.int .i64 k, .int .i64 d, .int .i64 no, .int .i64 p, .int .i64 q];unfold Hid; simpa using this
 go_enter func85, ntmps85
 go_upto_region 1 with (fail);generalize World.alloc (World.alloc w _) _ = W at *;have s0 := AL.c0;by_cases hk : k < 1 ∨ 6 < k
 ·have HE : Hid (zc nn nd ⟨k, d, no, p, q⟩ = 6) := il nn nd d no p q hk
  go_wp2_with fail
  refine (iP k hk W).mono ?_;rintro e w1 ⟨rfl, rfl⟩;clear hk s0;have hn := tJ none 0 0
  go_wp2_with fail
  go_ret;exact ⟨zC (by rw [HE.out]), HB⟩
 have HK : Hid (vl (vG nn nd (rW k) ⟨d, no, p, q, false, false, false, false⟩) = zc nn nd ⟨k, d, no, p, q⟩) := jO (by omega) (by omega)
 go_wp2_with fail
 refine (jT k (by omega) (by omega) W).mono ?_;rintro e w1 ⟨b, n, rfl, BS, AX⟩;clear hk s0;have BD := iD BS.out;have CQ := iD (HB.trans (AX.mono HB.size));have Xe := iD (Bi.below AX Bi.lt);have Qi := iD (AL.below AX AL.lt);clear BS AX HB Bi AL;have hn := tJ (some ⟨b, 0, none⟩) n n;obtain ⟨n0, n1⟩ := Xe.d2;obtain ⟨s0, s1, s2, s3, s4⟩ := Qi.d5
 go_wp2_with fail
 clear n0 n1 s0 s1 s2 s3 s4;refine (iN An Ad _ nn cn nd cd n n (rW k) k ⟨d, no, p, q, false, false, false, false⟩ w1 rfl rfl rfl rfl BD Bq AE).mono ?_;rintro e w2 ⟨rfl, AQ⟩;obtain ⟨h, hh⟩ := eX (vG nn nd (rW k) ⟨d, no, p, q, false, false, false, false⟩);rw [← hh] at HK ⊢;clear hh BD;obtain ⟨dv, nv, po, ke, g0, g1, g2, g3⟩ := h;dsimp only [Hs.step, Hs.bad];have AY := iD (CQ.trans (AQ.mono CQ.size));have Xd := iD (Qi.below AQ Qi.lt);clear AQ CQ Xe Qi;go_upto_region 5 with (fail);have HV := iD (QT.new w2 k dv nv po ke g0 g1 g2 g3);have Co := iD ((AY.alloc AY.size (.cells #[.int .i64 k, .int .i64 dv, .int .i64 nv, .int .i64 po, .int .i64 ke] 31)).alloc (by have := AY.size; simp; omega) (.cells #[.bool g0, .bool g1, .bool g2, .bool g3] 149))
 have LH := iD ((Xd.alloc (.cells #[.int .i64 k, .int .i64 dv, .int .i64 nv, .int .i64 po, .int .i64 ke] 31)).alloc (.cells #[.bool g0, .bool g1, .bool g2, .bool g3] 149));generalize World.alloc (World.alloc w2 _) _ = V at *;clear AY Xd;obtain ⟨x, hx⟩ := eX w2.heap.size;rw [← hx] at HV ⊢;clear hx;go_upto_region 6 with (fail);refine zm [(3, 0), (0, 1), (2, 0), (1, 1), (12, 0), (0, 2), (7, 1), (4, 0)] 23 (4) (PsR g0 g1 g2 g3 V) (by (try dsimp only [gt]); exact ⟨0, rfl, ⟨by decide, by decide⟩, rfl, rfl, fun h => absurd h (by decide), fun h => absurd h (by decide), fun h => absurd h (by decide), fun h => absurd h (by decide)⟩) (by kernel_rfl) ?_;intro u1 Ah gk wr a hrel ha J1 K1 Dk Ky;dsimp only [zY, Go.Proofs.YtddddlhgaeameaaGreatDoor.v1, Nat.reduceAdd] at ha;subst ha;obtain ⟨i, rfl, hi, Au, rfl, m0, m1, m2, m3⟩ := hrel;obtain ⟨d0, d1, d2, d3⟩ := HV.2.d4
 rcases (show i = 0 ∨ i = 1 ∨ i = 2 ∨ i = 3 ∨ i = 4 by omega) with rfl | rfl | rfl | rfl | rfl
 ·have hi := gR;rcases g0 with _ | _
  ·clear m0 m1 m2 m3
   go_wp2_with fail
   refine Handed.intro (3) (by omega) (Dk _ _ _ (xQ.back 23 ?_ (by kernel_rfl)));dsimp only [gt];exact ⟨1, rfl, ⟨by decide, by decide⟩, rfl, rfl, fun _ => rfl, fun h => absurd h (by decide), fun h => absurd h (by decide), fun h => absurd h (by decide)⟩
  ·have HE : Hid (zc nn nd ⟨k, d, no, p, q⟩ = 8) := by unfold Hid; rw [← HK.out]; simp [vl]
   clear m0 m1 m2 m3
   go_wp2_with fail
   go_ret;exact ⟨zC (by rw [HE.out]), Co⟩
 ·have hi := gQ;have Pe := iD (m0 (by decide));rcases g1 with _ | _
  ·clear m0 m1 m2 m3
   go_wp2_with fail
   refine Handed.intro (2) (by omega) (Dk _ _ _ (xQ.back 23 ?_ (by kernel_rfl)));dsimp only [gt];exact ⟨2, rfl, ⟨by decide, by decide⟩, rfl, rfl, fun _ => Pe, fun _ => rfl, fun h => absurd h (by decide), fun h => absurd h (by decide)⟩
  ·have HE : Hid (zc nn nd ⟨k, d, no, p, q⟩ = 7) := by unfold Hid; rw [← HK.out]; simp [vl, Pe.out]
   clear m0 m1 m2 m3
   go_wp2_with fail
   go_ret;exact ⟨zC (by rw [HE.out]), Co⟩
 ·have hi := gP;have Pe := iD (m0 (by decide));have CF := iD (m1 (by decide));rcases g2 with _ | _
  ·clear m0 m1 m2 m3
   go_wp2_with fail
   refine Handed.intro (1) (by omega) (Dk _ _ _ (xQ.back 23 ?_ (by kernel_rfl)));dsimp only [gt];exact ⟨3, rfl, ⟨by decide, by decide⟩, rfl, rfl, fun _ => Pe, fun _ => CF, fun _ => rfl, fun h => absurd h (by decide)⟩
  ·have HE : Hid (zc nn nd ⟨k, d, no, p, q⟩ = 10) := by unfold Hid; rw [← HK.out]; simp [vl, Pe.out, CF.out]
   clear m0 m1 m2 m3
   go_wp2_with fail
   go_ret;exact ⟨zC (by rw [HE.out]), Co⟩
 ·have hi := gO;have Pe := iD (m0 (by decide));have CF := iD (m1 (by decide));have FL := iD (m2 (by decide));rcases g3 with _ | _
  ·clear m0 m1 m2 m3
   go_wp2_with fail
   refine Handed.intro (0) (by omega) (Dk _ _ _ (xQ.back 23 ?_ (by kernel_rfl)));dsimp only [gt];exact ⟨4, rfl, ⟨by decide, by decide⟩, rfl, rfl, fun _ => Pe, fun _ => CF, fun _ => FL, fun _ => rfl⟩
  ·have HE : Hid (zc nn nd ⟨k, d, no, p, q⟩ = 5) := by unfold Hid; rw [← HK.out]; simp [vl, Pe.out, CF.out, FL.out]
   clear m0 m1 m2 m3
   go_wp2_with fail
   go_ret;exact ⟨zC (by rw [HE.out]), Co⟩
 ·have Pe := iD (m0 (by decide));have CF := iD (m1 (by decide));have FL := iD (m2 (by decide));have DW := iD (m3 (by decide));clear m0 m1 m2 m3 d0 d1 d2 d3;obtain ⟨c0, c1, c2, c3, c4⟩ := HV.1.d5;have s0 := LH.c0;have hq := nZ k dv nv po ke k 0 0 0 0;have HE : Hid (zc nn nd ⟨k, d, no, p, q⟩ = if dv ≠ 0 ∨ nv ≠ 0 ∨ po ≠ 0 ∨ ke ≠ 0 then 14 else 0) := by unfold Hid; rw [← HK.out]; have e0 := Pe.out; have e1 := CF.out; have e2 := FL.out; have e3 := DW.out; subst e0 e1 e2 e3; rfl
  have HQ : Hid (Sp.eqB ⟨k, dv, nv, po, ke⟩ ⟨k, 0, 0, 0, 0⟩ = !decide (dv ≠ 0 ∨ nv ≠ 0 ∨ po ≠ 0 ∨ ke ≠ 0)) := by unfold Hid; by_cases a : dv = 0 <;> by_cases b : nv = 0 <;> by_cases c : po = 0 <;> by_cases e : ke = 0 <;> simp [Sp.eqB, a, b, c, e]
  by_cases hz : dv ≠ 0 ∨ nv ≠ 0 ∨ po ≠ 0 ∨ ke ≠ 0
  ·rw [HQ.out, decide_eq_true hz] at hq;have Dn : Hid (zc nn nd ⟨k, d, no, p, q⟩ = 14) := by unfold Hid; rw [HE.out, if_pos hz]
   clear hz
   go_wp2_with fail
   go_ret;exact ⟨zC (by rw [Dn.out]), Co⟩
  ·rw [HQ.out, decide_eq_false hz] at hq;have Dn : Hid (zc nn nd ⟨k, d, no, p, q⟩ = 0) := by unfold Hid; rw [HE.out, if_neg hz]
   clear hz
   go_wp2_with fail
   go_ret;exact ⟨zC (by rw [Dn.out]), Co⟩
theorem pu {xs : List Sp} {x : Sp} (hx : xs[i]? = some x) : zn nn nd (xs.drop i) = if zc nn nd x ≠ 0 then zc nn nd x else zn nn nd (xs.drop (i + 1)) := by
 obtain ⟨hi, rfl⟩ := List.getElem?_eq_some_iff.mp hx;rw [List.drop_eq_getElem_cons hi, zn]
structure nQ (w : World) (An Ad Ax : Option Addr) (nn cn nd cd nx cx : Nat) (ns : List Nd) (ds : List Dv) (nm : ByteArray) (xs : List Sp) : Prop where
 hn : Av w 3 An nn cn (ns.flatMap Nd.cells)
 hd : Av w 5 Ad nd cd (ds.flatMap Dv.cells)
 hx : Av w 5 Ax nx cx (xs.flatMap Sp.cells)
 la : yr w
 sn : ∀ x ∈ ns, x.name.size ≤ 9223372036854775807
 sd : ∀ x ∈ ds, x.name.size ≤ 9223372036854775807
 sm : nm.size ≤ 9223372036854775807
structure RO (w : World) (N : Array Value) (nm : ByteArray) (Ax : Option Addr) (nx cx : Nat) (wr : World) : Prop where
 b0 : AJ wr w.heap.size 26 N
 b1 : AJ wr (w.heap.size + 1) 34 #[.string nm, .slice Ax nx cx]
 bl : bW w wr
section
variable {w wr wr' : World} {N : Array Value} {An Ad Ax : Option Addr} {nn cn nd cd nx cx : Nat} {ns : List Nd} {ds : List Dv} {nm : ByteArray} {xs : List Sp}
theorem RO.new (w : World) (N : Array Value) (nm : ByteArray) (Ax : Option Addr) (nx cx : Nat) : RO w N nm Ax nx cx ((w.alloc (.cells N 26)).alloc (.cells #[.string nm, .slice Ax nx cx] 34)) :=
 ⟨(AJ.new w _ _).alloc _, by have := AJ.new (w.alloc (.cells N 26)) 34 #[.string nm, .slice Ax nx cx]; simpa using this, ((Below.refl _ _).alloc lR _).alloc (by simp) _⟩
theorem RO.later (h : RO w N nm Ax nx cx wr) (hb : bW wr wr') : RO w N nm Ax nx cx wr' := ⟨h.b0.below hb h.b0.lt, h.b1.below hb h.b1.lt, h.bl.trans (hb.mono h.bl.size)⟩
theorem nQ.below (h : nQ w An Ad Ax nn cn nd cd nx cx ns ds nm xs) (hb : bW w wr) : nQ wr An Ad Ax nn cn nd cd nx cx ns ds nm xs :=
 ⟨(h.hn.below hb lR).more hb.size, (h.hd.below hb lR).more hb.size, (h.hx.below hb lR).more hb.size, h.la.below hb lR, h.sn, h.sd, h.sm⟩
end
def PgR (w : World) (N : Array Value) (nm : ByteArray) (Ax : Option Addr) (nn nd nx cx : Nat) (xs : List Sp) (gk : Nat) (iv : Value) (wr : World) : Prop :=
 ∃ i : Nat, iv = .int .i64 i ∧ i ≤ nx ∧ gk = nx - i ∧ Hid (zn nn nd xs = zn nn nd (xs.drop i)) ∧ Hid (RO w N nm Ax nx cx wr)
theorem oP (An Ad Ax : Option Addr) (nn cn nd cd nx cx : Nat) (ns : List Nd) (ds : List Dv) (nm : ByteArray) (xs : List Sp) (w : World) (h : nQ w An Ad Ax nn cn nd cd nx cx ns ds nm xs) :
 Calls prog 60 #[.agg #[.slice An nn cn, .slice Ad nd cd], .agg #[.string nm, .slice Ax nx cx]] w fun e w' => e = .returned (.int .i64 (yc ns ds nm xs)) ∧ bW w w' := by
 have HH := iD h;have HB := iD (RO.new w #[.slice An nn cn, .slice Ad nd cd] nm Ax nx cx);have DJ : ns.length = nn := h.hn.len (fun _ => rfl) (by decide);have Ic : ds.length = nd := h.hd.len (fun _ => rfl) (by decide);have Vl : xs.length = nx := h.hx.len (fun _ => rfl) (by decide);have Bq := h.hn.le;have AE := h.hd.le;have AW := h.hx.le;have HE : Hid (yc ns ds nm xs = if zR ns ds ≠ 0 then zR ns ds else if yI (BA nm) = false then 3 else if 64 < nx then 1 else zn nn nd xs) := by unfold Hid yc; rw [DJ, Ic, Vl]
 clear h
 go_enter func60, ntmps60
 go_upto_region 1 with (fail);generalize World.alloc (World.alloc w _) _ = W at *;have HM := iD (HH.below HB.bl);have XE := iD (um An Ad nn cn nd cd W.heap.size W.heap.size ns ds W HM.la HM.hn HM.hd lR lR HM.sn HM.sd);obtain ⟨k0, k1⟩ := HB.b0.d2
 go_wp2_with fail
 clear k0 k1;refine XE.mono ?_;rintro e w1 ⟨rfl, AX⟩;have AL := iD (HB.later AX);have ED := iD (HM.below AX);clear AX HB HM XE;by_cases hc : zR ns ds = 0; rotate_left
 ·have q1 : (zR ns ds != 0) = true := by simpa using hc
  have HR : Hid (yc ns ds nm xs = zR ns ds) := by unfold Hid; rw [HE.out, if_pos hc]
  clear hc
  go_wp2_with fail
  go_ret;exact ⟨zC (by rw [HR.out]), AL.bl⟩
 have Ht : Hid (yc ns ds nm xs = if yI (BA nm) = false then 3 else if 64 < nx then 1 else zn nn nd xs) := by unfold Hid; rw [HE.out, if_neg (by simp [hc])]
 rw [hc];clear hc HE;obtain ⟨p0, p1⟩ := AL.b1.d2;have Gg := iD (rM nm w1 ED.la ED.sm)
 go_wp2_with fail
 clear p0 p1;refine Gg.mono ?_;rintro e w2 ⟨rfl, AQ⟩;have AY := iD (AL.later AQ);have CG := iD (ED.below AQ);clear AQ AL ED Gg;by_cases hm : yI (BA nm) = true; rotate_left
 ·have MM : yI (BA nm) = false := by simpa using hm
  have HR : Hid (yc ns ds nm xs = 3) := by unfold Hid; rw [Ht.out, if_pos MM]
  rw [MM];clear hm MM
  go_wp2_with fail
  go_ret;exact ⟨zC (by rw [HR.out]), AY.bl⟩
 have Dn : Hid (yc ns ds nm xs = if 64 < nx then 1 else zn nn nd xs) := by unfold Hid; rw [Ht.out, if_neg (by simp [hm])]
 rw [hm];clear hm Ht;have p1 := AY.b1.c1;by_cases hx : 64 < nx
 ·have q1 : decide ((64 : Int) < (nx : Int)) = true := by simp; omega
  have q2 : decide (64 < nx) = true := by simpa using hx
  have HR : Hid (yc ns ds nm xs = 1) := by unfold Hid; rw [Dn.out, if_pos hx]
  clear hx
  go_wp2_with fail
  go_ret;exact ⟨zC (by rw [HR.out]), AY.bl⟩
 have q1 : decide ((64 : Int) < (nx : Int)) = false := by simp; omega
 have q2 : decide (64 < nx) = false := by simpa using hx
 have KA : Hid (yc ns ds nm xs = zn nn nd xs) := by unfold Hid; rw [Dn.out, if_neg hx]
 clear Dn;go_upto_region 9 with (fail);clear p1 q1 q2;refine zm [(3, 0), (0, 1), (1, 0), (1, 1), (17, 0), (0, 2), (9, 1)] 27 (nx) (PgR w #[.slice An nn cn, .slice Ad nd cd] nm Ax nn nd nx cx xs) (by (try dsimp only [gt]); exact ⟨0, rfl, Nat.zero_le _, rfl, rfl, AY⟩) (by kernel_rfl) ?_;intro u1 p27 gk wr a hrel ha J1 K1 Dk Ky;dsimp only [zY, Go.Proofs.YtddddlhgaeameaaGreatDoor.v1, Nat.reduceAdd] at ha;subst ha;clear AY CG;obtain ⟨i, rfl, hi, rfl, HS, HQ⟩ := hrel;have p1 := HQ.b1.c1;by_cases hlt : i < nx; rotate_left
 ·have Ck : decide ((i : Int) < (nx : Int)) = false := by simp; omega
  have GM : decide (i < nx) = false := by simp; omega
  have HR : Hid (yc ns ds nm xs = 0) := by unfold Hid; rw [KA.out, HS.out, List.drop_eq_nil_of_le (by omega)]; rfl
  go_wp2_with fail
  go_ret;exact ⟨zC (by rw [HR.out]), HQ.bl⟩
 obtain ⟨be, oe, x, NC, DZ, hx', hcs⟩ := (HH.hx.below HQ.bl lR).at (fun _ => rfl) (by decide) hlt;have HX := iD hx';obtain ⟨ek, ed, en, ep, eq⟩ := x;have HC : Hid ((wr.cell? ⟨be, oe + i * 5, none⟩ = some (.int .i64 ek) ∧ wr.cell? ⟨be, oe + i * 5 + 1, none⟩ = some (.int .i64 ed) ∧ wr.cell? ⟨be, oe + i * 5 + 2, none⟩ = some (.int .i64 en) ∧ wr.cell? ⟨be, oe + i * 5 + 3, none⟩ = some (.int .i64 ep) ∧ wr.cell? ⟨be, oe + i * 5 + 4, none⟩ = some (.int .i64 eq)) ∧ (wr.cell? ⟨w.heap.size, 0, none⟩ = some (.slice An nn cn) ∧ wr.cell? ⟨w.heap.size, 1, none⟩ = some (.slice Ad nd cd)) ∧ wr.cell? ⟨w.heap.size + 1, 1, none⟩ = some (.slice Ax nx cx)) := ⟨⟨hcs 0 _ rfl, hcs 1 _ rfl, hcs 2 _ rfl, hcs 3 _ rfl, hcs 4 _ rfl⟩, ⟨HQ.b0.cell 0, HQ.b0.cell 1⟩, p1⟩;subst NC;clear hcs hx' DZ
 have Ar : Hid (zn nn nd xs = if zc nn nd ⟨ek, ed, en, ep, eq⟩ ≠ 0 then zc nn nd ⟨ek, ed, en, ep, eq⟩ else zn nn nd (xs.drop (i + 1))) := HS.trans (pu HX);clear HX HS;obtain ⟨⟨c0, c1, c2, c3, c4⟩, ⟨k0, k1⟩, -⟩ := HC.out;clear HC;go_upto_region 11 with (fail);clear c0 c1 c2 c3 c4 k0 k1 p1;have HV := iD (AJ.new wr 31 #[.int .i64 ek, .int .i64 ed, .int .i64 en, .int .i64 ep, .int .i64 eq]);have Ur := iD (HQ.later ((Below.refl _ wr).alloc lR (.cells #[.int .i64 ek, .int .i64 ed, .int .i64 en, .int .i64 ep, .int .i64 eq] 31)));clear HQ;generalize World.alloc wr _ = V at *;obtain ⟨bq, Fb⟩ := eX wr.heap.size;rw [← Fb] at HV ⊢;clear Fb;obtain ⟨c0, c1, c2, c3, c4⟩ := HV.d5;obtain ⟨k0, k1⟩ := Ur.b0.d2
 go_wp2_with fail
 clear c0 c1 c2 c3 c4 k0 k1;refine (lf An Ad nn cn nd cd ek ed en ep eq V (by omega) (by omega)).mono ?_;rintro e w6 ⟨rfl, Cv⟩;have Em := iD (Ur.later Cv);clear Cv Ur HV;by_cases h0 : zc nn nd ⟨ek, ed, en, ep, eq⟩ = 0; rotate_left
 ·have q1 : (zc nn nd ⟨ek, ed, en, ep, eq⟩ != 0) = true := by simpa using h0
  have HR : Hid (yc ns ds nm xs = zc nn nd ⟨ek, ed, en, ep, eq⟩) := by unfold Hid; rw [KA.out, Ar.out, if_pos h0]
  clear h0
  go_wp2_with fail
  go_ret;exact ⟨zC (by rw [HR.out]), Em.bl⟩
 have Da : Hid (zn nn nd xs = zn nn nd (xs.drop (i + 1))) := by unfold Hid; rw [Ar.out, if_neg (by simp [h0])]
 rw [h0];clear h0 Ar
 go_wp2_with fail
 refine Handed.intro (nx - (i + 1)) (by omega) (Dk _ _ _ (xQ.back 27 ?_ (by kernel_rfl)));dsimp only [gt];exact ⟨i + 1, by go_num, by omega, rfl, Da, Em⟩
theorem pP (An Ad Ax : Option Addr) (nn cn nd cd nx cx : Nat) (ns : List Nd) (ds : List Dv) (nm : ByteArray) (xs : List Sp) (w : World) (h : nQ w An Ad Ax nn cn nd cd nx cx ns ds nm xs) :
 Calls prog 30 #[.agg #[.slice An nn cn, .slice Ad nd cd], .agg #[.string nm, .slice Ax nx cx]] w fun e w' => e = .returned (.int .i64 (yc ns ds nm xs)) ∧ bW w w' := by
 have HH := iD h;have HB := iD (RO.new w #[.slice An nn cn, .slice Ad nd cd] nm Ax nx cx);have DJ : ns.length = nn := h.hn.len (fun _ => rfl) (by decide);have Ic : ds.length = nd := h.hd.len (fun _ => rfl) (by decide);have Vl : xs.length = nx := h.hx.len (fun _ => rfl) (by decide);have Bq := h.hn.le;have AE := h.hd.le;have AW := h.hx.le;have HE : Hid (yc ns ds nm xs = if zR ns ds ≠ 0 then zR ns ds else if yI (BA nm) = false then 3 else if 64 < nx then 1 else zn nn nd xs) := by unfold Hid yc; rw [DJ, Ic, Vl]
 clear h
 go_enter func30, ntmps30
 go_upto_region 1 with (fail);generalize World.alloc (World.alloc w _) _ = W at *;have HM := iD (HH.below HB.bl);have XE := iD (vY An Ad nn cn nd cd W.heap.size W.heap.size ns ds W HM.hn HM.hd lR lR HM.sn HM.sd);obtain ⟨k0, k1⟩ := HB.b0.d2
 go_wp2_with fail
 clear k0 k1;refine XE.mono ?_;rintro e w1 ⟨rfl, AX⟩;have AL := iD (HB.later AX);have ED := iD (HM.below AX);clear AX HB HM XE;by_cases hc : zR ns ds = 0; rotate_left
 ·have q1 : (zR ns ds != 0) = true := by simpa using hc
  have HR : Hid (yc ns ds nm xs = zR ns ds) := by unfold Hid; rw [HE.out, if_pos hc]
  clear hc
  go_wp2_with fail
  go_ret;exact ⟨zC (by rw [HR.out]), AL.bl⟩
 have Ht : Hid (yc ns ds nm xs = if yI (BA nm) = false then 3 else if 64 < nx then 1 else zn nn nd xs) := by unfold Hid; rw [HE.out, if_neg (by simp [hc])]
 rw [hc];clear hc HE;obtain ⟨p0, p1⟩ := AL.b1.d2;have Gg := iD (te nm w1 ED.sm)
 go_wp2_with fail
 clear p0 p1;refine Gg.mono ?_;rintro e w2 ⟨rfl, hw⟩;have AQ : Below w1.heap.size w1 w2 := by rw [← hw]; exact Below.refl _ _
 clear hw;have AY := iD (AL.later AQ);have CG := iD (ED.below AQ);clear AQ AL ED Gg;by_cases hm : yI (BA nm) = true; rotate_left
 ·have MM : yI (BA nm) = false := by simpa using hm
  have HR : Hid (yc ns ds nm xs = 3) := by unfold Hid; rw [Ht.out, if_pos MM]
  rw [MM];clear hm MM
  go_wp2_with fail
  go_ret;exact ⟨zC (by rw [HR.out]), AY.bl⟩
 have Dn : Hid (yc ns ds nm xs = if 64 < nx then 1 else zn nn nd xs) := by unfold Hid; rw [Ht.out, if_neg (by simp [hm])]
 rw [hm];clear hm Ht;have p1 := AY.b1.c1;by_cases hx : 64 < nx
 ·have q1 : decide ((64 : Int) < (nx : Int)) = true := by simp; omega
  have q2 : decide (64 < nx) = true := by simpa using hx
  have HR : Hid (yc ns ds nm xs = 1) := by unfold Hid; rw [Dn.out, if_pos hx]
  clear hx
  go_wp2_with fail
  go_ret;exact ⟨zC (by rw [HR.out]), AY.bl⟩
 have q1 : decide ((64 : Int) < (nx : Int)) = false := by simp; omega
 have q2 : decide (64 < nx) = false := by simpa using hx
 have KA : Hid (yc ns ds nm xs = zn nn nd xs) := by unfold Hid; rw [Dn.out, if_neg hx]
 clear Dn;go_upto_region 9 with (fail);clear p1 q1 q2;refine zm [(3, 0), (0, 1), (0, 0), (0, 2), (0, 1), (12, 0), (16, 1)] 6 (nx) (PgR w #[.slice An nn cn, .slice Ad nd cd] nm Ax nn nd nx cx xs) (by (try dsimp only [gt]); exact ⟨0, rfl, Nat.zero_le _, rfl, rfl, AY⟩) (by kernel_rfl) ?_;intro u1 p6 gk wr a hrel ha J1 K1 Dk Ky;dsimp only [zY, Go.Proofs.YtddddlhgaeameaaGreatDoor.v1, Nat.reduceAdd] at ha;subst ha;clear AY CG;obtain ⟨i, rfl, hi, rfl, HS, HQ⟩ := hrel;have p1 := HQ.b1.c1;by_cases hlt : i < nx; rotate_left
 ·have Ck : decide ((i : Int) < (nx : Int)) = false := by simp; omega
  have GM : decide (i < nx) = false := by simp; omega
  have HR : Hid (yc ns ds nm xs = 0) := by unfold Hid; rw [KA.out, HS.out, List.drop_eq_nil_of_le (by omega)]; rfl
  go_wp2_with fail
  go_ret;exact ⟨zC (by rw [HR.out]), HQ.bl⟩
 obtain ⟨be, oe, x, NC, DZ, hx', hcs⟩ := (HH.hx.below HQ.bl lR).at (fun _ => rfl) (by decide) hlt;have HX := iD hx';obtain ⟨ek, ed, en, ep, eq⟩ := x;have HC : Hid ((wr.cell? ⟨be, oe + i * 5, none⟩ = some (.int .i64 ek) ∧ wr.cell? ⟨be, oe + i * 5 + 1, none⟩ = some (.int .i64 ed) ∧ wr.cell? ⟨be, oe + i * 5 + 2, none⟩ = some (.int .i64 en) ∧ wr.cell? ⟨be, oe + i * 5 + 3, none⟩ = some (.int .i64 ep) ∧ wr.cell? ⟨be, oe + i * 5 + 4, none⟩ = some (.int .i64 eq)) ∧ (wr.cell? ⟨w.heap.size, 0, none⟩ = some (.slice An nn cn) ∧ wr.cell? ⟨w.heap.size, 1, none⟩ = some (.slice Ad nd cd)) ∧ wr.cell? ⟨w.heap.size + 1, 1, none⟩ = some (.slice Ax nx cx)) := ⟨⟨hcs 0 _ rfl, hcs 1 _ rfl, hcs 2 _ rfl, hcs 3 _ rfl, hcs 4 _ rfl⟩, ⟨HQ.b0.cell 0, HQ.b0.cell 1⟩, p1⟩;subst NC;clear hcs hx' DZ
 have Ar : Hid (zn nn nd xs = if zc nn nd ⟨ek, ed, en, ep, eq⟩ ≠ 0 then zc nn nd ⟨ek, ed, en, ep, eq⟩ else zn nn nd (xs.drop (i + 1))) := HS.trans (pu HX);clear HX HS;have AK := iD (HQ.later (Below.refl _ wr).drew);have Md := iD (pQ An Ad nn cn nd cd ek ed en ep eq wr.drew (by omega) (by omega));go_upto_region 11 with (fail);clear p1 HQ;refine fX (fun W' => (W'.cell? ⟨be, oe + i * 5, none⟩ = some (.int .i64 ek) ∧ W'.cell? ⟨be, oe + i * 5 + 1, none⟩ = some (.int .i64 ed) ∧ W'.cell? ⟨be, oe + i * 5 + 2, none⟩ = some (.int .i64 en) ∧ W'.cell? ⟨be, oe + i * 5 + 3, none⟩ = some (.int .i64 ep) ∧ W'.cell? ⟨be, oe + i * 5 + 4, none⟩ = some (.int .i64 eq)) ∧ (W'.cell? ⟨w.heap.size, 0, none⟩ = some (.slice An nn cn) ∧ W'.cell? ⟨w.heap.size, 1, none⟩ = some (.slice Ad nd cd)) ∧ W'.cell? ⟨w.heap.size + 1, 1, none⟩ = some (.slice (some ⟨be, oe, none⟩) nx cx)) [] ?_ fun AA => ?_
 ·exact HC.out
 try dsimp only at AA
 refine ty 0 28 (mf 8 1) AA (y := by intro w AR; have k0 := AR.2.1.1; have k1 := AR.2.1.2; clear AR; go_simp; try with_reducible rfl) (h := ?_);refine ty 1 29 (mf 8 2) AA (y := by intro w AR; (try dsimp only at AR); clear AR; go_simp; try with_reducible rfl) (h := ?_);refine ty 2 30 (mf 8 3) AA (y := by intro w AR; have k0 := AR.2.2; clear AR; go_simp; try with_reducible rfl) (h := ?_);refine ty 3 31 (mf 8 4) AA (y := by intro w AR; (try dsimp only at AR); clear AR; go_simp; try with_reducible rfl) (h := ?_);refine ty 4 32 (mf 8 5) AA (y := by intro w AR; (try dsimp only at AR); clear AR; go_simp; try with_reducible rfl) (h := ?_);refine ty 5 33 (mf 8 6) AA (y := by intro w AR; (try dsimp only at AR); obtain ⟨⟨k0, k1, k2, k3, k4⟩, -⟩ := AR; go_simp; try with_reducible rfl) (h := ?_);refine tb 6 (mf 8 7) fun K hK => ?_
 (go_simp; refine Md.mono ?_; rintro e w6 ⟨rfl, Cv⟩; go_simp)
 refine hK _ _ (fun _ => ⟨⟨zD Cv HC.1.1, zD Cv HC.1.2.1, zD Cv HC.1.2.2.1, zD Cv HC.1.2.2.2.1, zD Cv HC.1.2.2.2.2⟩, ⟨zD Cv HC.2.1.1, zD Cv HC.2.1.2⟩, zD Cv HC.2.2⟩) fun p => (fun AA => ?_) (p rfl)
 clear p hK K;(try dsimp only at AA);refine tk 7 7 (mf 8 8) AA ?_;refine tK ?_;have Em := iD (AK.later Cv);clear Cv AK Md HC;by_cases h0 : zc nn nd ⟨ek, ed, en, ep, eq⟩ = 0; rotate_left
 ·have q1 : (zc nn nd ⟨ek, ed, en, ep, eq⟩ != 0) = true := by simpa using h0
  have HR : Hid (yc ns ds nm xs = zc nn nd ⟨ek, ed, en, ep, eq⟩) := by unfold Hid; rw [KA.out, Ar.out, if_pos h0]
  clear h0
  go_wp2_with fail
  go_ret;exact ⟨zC (by rw [HR.out]), Em.bl⟩
 have Da : Hid (zn nn nd xs = zn nn nd (xs.drop (i + 1))) := by unfold Hid; rw [Ar.out, if_neg (by simp [h0])]
 rw [h0];clear h0 Ar
 go_wp2_with fail
 refine Handed.intro (nx - (i + 1)) (by omega) (Dk _ _ _ (xQ.back 6 ?_ (by kernel_rfl)));dsimp only [gt];exact ⟨i + 1, by go_num, by omega, rfl, Da, Em⟩
structure Fd where
 s : List Int
 ls : List Lk
 st : List Int
def ik (nd : Nat) (st : List Int) (i : Nat) : Bool := match st[i]? with
 | none => false
 | some d => decide (d < 0) || decide ((nd : Int) ≤ d) || (decide (0 < i) && decide (d ≤ st.getD (i - 1) 0))
def lN (nd : Nat) (st : List Int) : Prop := ∀ i, i < st.length → ik nd st i = false
section
variable {ns : List Nd} {ds : List Dv} {F : Fd}
end
theorem lN.mem {st : List Int} (h : lN nd st) {x : Int} (hx : x ∈ st) : 0 ≤ x ∧ x < nd := by
 obtain ⟨i, hi, rfl⟩ := List.mem_iff_getElem.1 hx;have := h i hi;unfold ik at this;rw [List.getElem?_eq_getElem hi] at this;simp only [Bool.or_eq_false_iff, decide_eq_false_iff_not] at this;omega
theorem lN.of {st : List Int} (h : st.Pairwise (· < ·)) (hm : ∀ x ∈ st, 0 ≤ x ∧ x < nd) : lN nd st := by
 intro i hi;have h1 := hm _ (List.getElem_mem hi);unfold ik;rw [List.getElem?_eq_getElem hi];simp only [Bool.or_eq_false_iff, decide_eq_false_iff_not, Bool.and_eq_false_iff];refine ⟨⟨by omega, by omega⟩, ?_⟩;by_cases h0 : i = 0
 ·left; omega
 ·right
  rw [List.getD_eq_getElem?_getD, List.getElem?_eq_getElem (show i - 1 < st.length by omega), Option.getD_some];have := (List.pairwise_iff_getElem.1 h) (i - 1) i (by omega) hi (by omega);omega
structure Xj (w : World) (An Ad As Al At : Option Addr) (nn cn nd cd n c nl cl nt ct : Nat) (ns : List Nd) (ds : List Dv) (F : Fd) : Prop where
 hn : Av w 3 An nn cn (ns.flatMap Nd.cells)
 hd : Av w 5 Ad nd cd (ds.flatMap Dv.cells)
 hs : Av w 1 As n c (zF F.s)
 hl : Av w 3 Al nl cl (F.ls.flatMap Lk.cells)
 ht : Av w 1 At nt ct (zF F.st)
 la : yr w
 sn : ∀ x ∈ ns, x.name.size ≤ 9223372036854775807
 sd : ∀ x ∈ ds, x.name.size ≤ 9223372036854775807
section
variable {w w' : World} {An Ad As Al At : Option Addr} {nn cn nd cd n c nl cl nt ct : Nat} {ns : List Nd} {ds : List Dv} {F : Fd}
theorem Xj.later (h : Xj w An Ad As Al At nn cn nd cd n c nl cl nt ct ns ds F) (hb : bW w w') : Xj w' An Ad As Al At nn cn nd cd n c nl cl nt ct ns ds F :=
 ⟨(h.hn.below hb lR).more hb.size, (h.hd.below hb lR).more hb.size, (h.hs.below hb lR).more hb.size, (h.hl.below hb lR).more hb.size, (h.ht.below hb lR).more hb.size, h.la.below hb lR, h.sn, h.sd⟩
theorem Xj.ln (h : Xj w An Ad As Al At nn cn nd cd n c nl cl nt ct ns ds F) : ns.length = nn ∧ ds.length = nd ∧ F.s.length = n ∧ F.ls.length = nl ∧ F.st.length = nt :=
 ⟨h.hn.len (fun _ => rfl) (by decide), h.hd.len (fun _ => rfl) (by decide), h.hs.len (fun _ => rfl) (by decide), h.hl.len (fun _ => rfl) (by decide), h.ht.len (fun _ => rfl) (by decide)⟩
end
def InR (w : World) (n : Nat) (l m : List Int) (gk : Nat) (iv : Value) (wr : World) : Prop := ∃ i : Nat, iv = .int .i64 i ∧ i ≤ n ∧ gk = n - i ∧ Hid (bW w wr) ∧ Hid (∀ j, j < i → l[j]? = m[j]?)
theorem vO (A B : Option Addr) (n c n2 c2 Ba Bb : Nat) (l m : List Int) (w : World) (ha : Sl w Ba 1 A n c (zF l)) (hb : Sl w Bb 1 B n2 c2 (zF m)) (Ag : Ba ≤ w.heap.size) (Ae : Bb ≤ w.heap.size) : Calls prog 18 #[.slice A n c, .slice B n2 c2] w fun e w' => e = .returned (.bool (decide (l = m))) ∧ bW w w' := by
 have Gj := iD (ha.len (fun _ => rfl) (by decide)); have Jw := iD (hb.len (fun _ => rfl) (by decide));have UU := ha.le;have Ak := hb.le;have HA := iD ha; have HB := iD hb;clear ha hb;by_cases hn : n = n2; rotate_left
 ·have q : decide (n = n2) = false := by simpa using hn
  have q' : ((n : Int) != (n2 : Int)) = true := by simp; omega
  have HR : Hid (decide (l = m) = false) := decide_eq_false (fun e => hn (by rw [← Gj.out, ← Jw.out, e]));clear hn
  go_enter func18, ntmps18
  go_wp2_with fail
  go_ret;exact ⟨zE (by rw [HR.out]), Below.refl _ _⟩
 subst hn
 go_enter func18, ntmps18
 go_wp2_with fail
 go_loopg [5] n (InR w n l m)
 case atStart => exact ⟨0, rfl, Nat.zero_le _, rfl, Below.refl _ _, fun j hj => absurd hj (by omega)⟩
 case round =>
  obtain ⟨i, rfl, hi, rfl, AZ, CB⟩ := hrel;by_cases hlt : i < n
  ·obtain ⟨b1, o1, x, rfl, AX, hx, Mt⟩ := (HA.below AZ Ag).at1 hlt;obtain ⟨b2, o2, y, rfl, AQ, hy, Ms⟩ := (HB.below AZ Ae).at1 hlt;have HX := iD hx; have HY := iD hy;clear hx hy;go_upto_region 6 with (fail);refine fX (fun W' => W'.cell? ⟨b1, o1 + i, none⟩ = some (.int .i64 x) ∧ W'.cell? ⟨b2, o2 + i, none⟩ = some (.int .i64 y)) [] ?_ fun AA => ?_
   ·exact ⟨Mt, Ms⟩
   try dsimp only at AA
   refine tk 0 17 (mf 9 1) AA ?_;refine tk 1 18 (mf 9 2) AA ?_;refine tk 2 19 (mf 9 3) AA ?_;refine tk 3 20 (mf 9 4) AA ?_;refine tk 4 21 (mf 9 5) AA ?_;refine tk 5 22 (mf 9 6) AA ?_;refine tk 6 23 (mf 9 7) AA ?_;refine tk 7 24 (mf 9 8) AA ?_;refine tk 8 25 (mf 9 9) AA ?_;refine tK ?_;clear AA;by_cases Je : x = y
   ·subst Je
    go_wp2_with fail
    go_roundg (n - (i + 1))
    case rel => exact ⟨i + 1, by go_num, by omega, rfl, AZ.drew, fun j hj => by
     rcases Nat.lt_succ_iff_lt_or_eq.1 hj with h | rfl
     ·exact CB j h
     ·rw [HX.out, HY.out]⟩
    case measure => omega
   ·have q : (x != y) = true := by simpa using Je
    have q2 : (x == y) = false := by simpa using Je
    have HR : Hid (decide (l = m) = false) := decide_eq_false (fun e => Je (by have := HX.out; rw [e, HY.out] at this; exact (Option.some.inj this).symm));clear Je
    go_wp2_with fail
    go_ret;exact ⟨zE (by rw [HR.out]), AZ.drew⟩
  ·obtain rfl : i = n := by omega
   have Ck : decide (i < i) = false := by simp
   have HR : Hid (decide (l = m) = true) := decide_eq_true (by
    apply List.ext_getElem?
    intro j;by_cases hj : j < i
    ·exact CB j hj
    ·rw [List.getElem?_eq_none (by rw [Gj.out]; omega), List.getElem?_eq_none (by rw [Jw.out]; omega)])
   go_wp2_with fail
   go_ret;exact ⟨zE (by rw [HR.out]), AZ⟩
theorem ve {w1 w2 : World} {row : Option Nat} (h : w.grownBy w1 row) (hb : Below w.heap.size w1 w2) : w.grownBy w2 row :=
 ⟨hb.os.trans h.os, hb.tape.trans h.tape, hb.output.trans h.output, Nat.le_trans h.size hb.size, fun i hi hne => (hb.block i hi).trans (h.block i hi hne)⟩
def lO (w : World) (g below : Nat) (e : Ending) (w' : World) : Prop := ∃ (A : Option Addr) (k c : Nat) (l : List Int), e = .returned (.slice A k c) ∧ Hid (zP w' g) ∧ Hid (w.grownBy w' (some g)) ∧ Hid (zN w' w.heap.size A k c l) ∧ Hid (∀ v ∈ l, 0 ≤ v ∧ v < below)
def gc (w : World) (g below gk : Nat) (ov iv : Value) (wr : World) : Prop := ∃ (i m co : Nat) (Ao : Option Addr) (out : List Int), iv = .int .i64 i ∧ ov = .slice Ao m co ∧ i ≤ below ∧ gk = below - i ∧ m ≤ i ∧ Hid (zN wr w.heap.size Ao m co out) ∧ Hid (zP wr g) ∧ Hid (w.grownBy wr (some g)) ∧ Hid (∀ v ∈ out, 0 ≤ v ∧ v < below)
theorem lm (g below most : Nat) (w : World) (hd : zP w g) (hb : below ≤ 1000) (hm : most ≤ 1000) :
 Calls prog 35 #[.pointer (some ⟨g, 0, none⟩), .int .i64 (below : Int), .int .i64 (most : Int)] w (lO w g below) := by
 have hlt := hd.lt;have JZ := iD hd;clear hd
 go_enter func35, ntmps35
 go_wp2_with fail
 go_loopg [7, 8] below (gc w g below)
 case atStart => exact ⟨0, 0, 0, none, [], rfl, rfl, Nat.zero_le _, rfl, Nat.le_refl _, World.ownsRow_nil _ _ _ _, JZ, xF _ _, fun v hv => by simp at hv⟩
 case round =>
  obtain ⟨i, m, co, Ao, out, rfl, rfl, hi, rfl, Aj, hO, hD, hG, hR⟩ := hrel;by_cases hgo : i < below ∧ m < most
  ·obtain ⟨Aq, Mm⟩ := hgo
   go_wp2_with fail
   refine (wT g 3 wr hD (by decide)).mono ?_;rintro e w3 ⟨r, rfl, Jk, Et, SL⟩;have BU := iD (hO.kept Et (zj fun b e => by have := (hO.lt b e).1; omega));have DW := iD (zJ hG Et);have JO := DW.size;clear hD hG Et SL hO;rcases r with _ | _
   ·go_wp2_with fail
    go_roundg (below - (i + 1))
    ·exact ⟨i + 1, m, co, Ao, out, by go_num, rfl, by omega, rfl, by omega, BU, Jk, DW, hR⟩
    omega
   ·have CZ : Hid (∀ v ∈ out ++ [(i : Int)], 0 ≤ v ∧ v < below) := fun v hv => by
     rcases List.mem_append.1 hv with h1 | h1
     ·exact hR v h1
     ·rw [List.mem_singleton.1 h1]; omega
    go_wp2_with (at_builtin; go_must (refine zL rfl (.tmp 22) (.tmp 24) rfl yl (by rfl) (BU.alloc _) (by rfl) (Sl.newest (n := 1) (by simp) (by rfl) (by decide)) (by simp [Value.oneCell']) (by omega) (by omega) (by simp; omega) ?_; intro A' cap' w4 Cf CR Iu; have BP := iD Cf; have GK := iD CR; clear Cf CR Iu))
    have Bu : Hid (Below w.heap.size w3 w4) := ((Below.refl _ _).alloc (by omega) _).trans ⟨GK.os, GK.tape, GK.output, GK.size, fun q hq => GK.block q (by simp; omega) (fun e => by have := (BU.lt q e.symm).1; omega)⟩;have KC := iD (Jk.below Bu (by omega));have LW : Hid (w.grownBy w4 (some g)) := ve DW Bu.out
    go_roundg (below - (i + 1))
    case rel =>
     refine ⟨i + 1, m + 1, cap', A', out ++ [(i : Int)], by go_num, rfl, by omega, rfl, by omega, ?_, KC, LW, CZ⟩;have := BP.out;unfold Hid zN;rw [yL];exact this
    case measure => omega
  ·have Dg : Hid (lO w g below (.returned (.slice Ao m co)) wr) := ⟨Ao, m, co, out, rfl, hD, hG, hO, hR⟩;by_cases hl : i < below
   ·have ql : decide ((m : Int) < (most : Int)) = false := by simp; omega
    have AP : decide (m < most) = false := by simp; omega
    go_wp2_with fail
    go_ret;exact Dg.out
   ·have ql : decide ((i : Int) < (below : Int)) = false := by simp; omega
    have AP : decide (i < below) = false := by simp; omega
    go_wp2_with fail
    go_ret;exact Dg.out
def jo (w : World) (g nn : Nat) (Al : Option Addr) (nl cl : Nat) (e : Ending) (w' : World) : Prop := ∃ (co : Int) (Ap : Option Addr) (np cp : Nat) (pr : List Int), e = .returned (.agg #[.int .i64 co, .slice Al nl cl, .slice Ap np cp]) ∧ (0 ≤ co ∧ co ≤ 7) ∧ Hid (zP w' g) ∧ Hid (w.grownBy w' (some g)) ∧ Hid (zN w' w.heap.size Ap np cp pr) ∧ Hid (∀ v ∈ pr, 0 ≤ v ∧ v < nn)
theorem pX (g : Nat) (An Ad Al : Option Addr) (nn cn nd cd nl cl : Nat) (w : World) (hd : zP w g) (Bq : nn ≤ 1000) :
 Calls prog 12 #[.pointer (some ⟨g, 0, none⟩), .agg #[.slice An nn cn, .slice Ad nd cd], .slice Al nl cl] w (jo w g nn Al nl cl) := by
 have hlt := hd.lt;have JZ := iD ((hd.alloc (.cells #[.slice An nn cn, .slice Ad nd cd] 26)).alloc (.cells #[.int .i64 0, .slice none 0 0, .slice none 0 0] 29));have Bi : Hid (Below w.heap.size w ((w.alloc (.cells #[.slice An nn cn, .slice Ad nd cd] 26)).alloc (.cells #[.int .i64 0, .slice none 0 0, .slice none 0 0] 29))) := ((Below.refl _ _).alloc lR _).alloc (by simp) _
 have GY : Hid (AJ ((w.alloc (.cells #[.slice An nn cn, .slice Ad nd cd] 26)).alloc (.cells #[.int .i64 0, .slice none 0 0, .slice none 0 0] 29)) (w.heap.size + 1) 29 #[.int .i64 0, .slice none 0 0, .slice none 0 0]) := by
  have := AJ.new (w.alloc (.cells #[.slice An nn cn, .slice Ad nd cd] 26)) 29 #[.int .i64 0, .slice none 0 0, .slice none 0 0];unfold Hid; simpa using this
 clear hd
 go_enter func12, ntmps12
 go_wp2_with fail
 generalize World.alloc (World.alloc w _) _ = W at *;have NZ := Bi.size;have AG : Hid (w.heap.size + 1 < W.heap.size) := GY.lt;refine (lm g nn 3 W JZ Bq (by decide)).mono ?_;rintro e w1 ⟨Ap, np, cp, pr, rfl, BC, Am, NA, Km⟩;have DV := iD ((GY.grown Am (fun e => by injection e with e; omega)).alloc (.cells #[.int .i64 0, .slice Al nl cl, .slice Ap np cp] 29));have CF := iD (zJ (zJ (zI Bi (some g)) Am) (zI ((Below.refl _ _).alloc lR (.cells #[.int .i64 0, .slice Al nl cl, .slice Ap np cp] 29)) (some g)));have Mf := iD (BC.alloc (.cells #[.int .i64 0, .slice Al nl cl, .slice Ap np cp] 29));have CE : Hid (zN (w1.alloc (.cells #[.int .i64 0, .slice Al nl cl, .slice Ap np cp] 29)) W.heap.size Ap np cp pr) := NA.alloc _;have Jq := iD (AJ.new w1 29 #[.int .i64 0, .slice Al nl cl, .slice Ap np cp]);have Fj := Am.size
 have AO : Hid (∀ q, (Value.slice Ap np cp).ownBlock = some q → q < w1.heap.size) := fun q h => (NA.lt q h).2
 clear BC Am NA GY JZ Bi;go_upto_region 2 with (fail);generalize World.alloc w1 _ = W2 at *;obtain ⟨vb, EF⟩ := eX w1.heap.size;rw [← EF] at Jq AO Fj ⊢;clear EF
 go_wp2_with fail
 refine (wT g 6 W2 Mf (by decide)).mono ?_;rintro e w3 ⟨r, rfl, Jk, Et, SL⟩;have EL := iD (DV.grown Et (fun e => by injection e with e; omega));have Lu := iD (Jq.grown Et (fun e => by injection e with e; omega));have BU := iD (CE.kept Et (zj fun b e => by have := (CE.lt b e).1; omega));have DW := iD (zJ CF Et);clear DV Jq CE CF Mf Et SL
 have Dg : Hid (∀ (co : Int) (w4 : World), 0 ≤ co ∧ co ≤ 7 → AJ w4 vb 29 #[.int .i64 co, .slice Al nl cl, .slice Ap np cp] → zP w4 g → w.grownBy w4 (some g) → zN w4 W.heap.size Ap np cp pr →
  jo w g nn Al nl cl (.returned (.agg #[.int .i64 co, .slice Al nl cl, .slice Ap np cp])) (((w4.setCell ⟨w.heap.size + 1, 0, none⟩ (.int .i64 co)).setCell ⟨w.heap.size + 1, 1, none⟩ (.slice Al nl cl)).setCell ⟨w.heap.size + 1, 2, none⟩ (.slice Ap np cp))) := by
  intro co w4 FT _ PQ Gt DN;refine ⟨co, Ap, np, cp, pr, rfl, FT, ((PQ.setCell (by simp; omega) _).setCell (by simp; omega) _).setCell (by simp; omega) _, zr (zr (zr Gt (by simp) _) (by simp) _) (by simp) _, ?_, Km⟩;have hq : ∀ b, (Value.slice Ap np cp).ownBlock = some b → b ≠ w.heap.size + 1 := fun b e => by have := (DN.lt b e).1; have := AG.out; omega
  exact (((DN.kept (zo _ _ _) (zj hq)).kept (zo _ _ _) (zj hq)).kept (zo _ _ _) (zj hq)).mono NZ
 rcases r with _ | _
 ·have HX := iD (Dg 0 w3 ⟨by decide, by decide⟩ Lu Jk DW BU);clear Dg BU DW Jk;obtain ⟨v0, v1, v2⟩ := Lu.d3;obtain ⟨c0, c1, c2⟩ := EL.d3;have f0 : w3.frozen? ⟨w.heap.size + 1, 0, none⟩ = false := EL.frozen 0;have f1 : w3.frozen? ⟨w.heap.size + 1, 1, none⟩ = false := EL.frozen 1;have f2 : w3.frozen? ⟨w.heap.size + 1, 2, none⟩ = false := EL.frozen 2
  go_wp2_with fail
  exact bodyPost_ret (v := .agg #[.int .i64 0, .slice Al nl cl, .slice Ap np cp]) (by simp [results, results12, go_sem, c0, c1, c2]) rfl HX.out
 ·go_wp2_with fail
  refine (zS g 3 w3 Jk (by decide)).mono ?_;rintro e w4 ⟨co, rfl, KI, _, DC, PQ, Gt, AU⟩;have MJ := DC (by omega);have Ee := iD ((EL.grown Gt (fun e => by injection e with e; omega)).far (p := ⟨vb, 0, none⟩) (by show w.heap.size + 1 ≠ vb; have := AG.out; omega) (.int .i64 co));have AH : Hid (AJ (w4.setCell ⟨vb, 0, none⟩ (.int .i64 co)) vb 29 #[.int .i64 co, .slice Al nl cl, .slice Ap np cp]) := (Lu.grown Gt (fun e => by injection e with e; omega)).set 0 (.int .i64 co);have BP := iD ((BU.kept Gt (zj fun b e => by have := (BU.lt b e).1; omega)).kept (zo w4 ⟨vb, 0, none⟩ (.int .i64 co)) (zj fun b e => by have := AO b e; simp; omega));have GK := iD (zr (zJ DW Gt) (p := ⟨vb, 0, none⟩) (by simp; omega) (.int .i64 co));have KC := iD (PQ.setCell (p := ⟨vb, 0, none⟩) (by simp; omega) (.int .i64 co));have e0 := (Lu.grown Gt (fun e => by injection e with e; omega)).c0
  have e1 : w4.frozen? ⟨vb, 0, none⟩ = false := (Lu.grown Gt (fun e => by injection e with e; omega)).frozen 0;have HX := iD (Dg co _ ⟨KI, by omega⟩ AH KC GK BP);clear Dg BU DW Jk PQ Gt AU EL Lu BP GK KC DC;go_upto_region 4 with (fail);generalize World.setCell w4 _ _ = w5 at *;clear e0 e1;obtain ⟨v0, v1, v2⟩ := AH.d3;obtain ⟨c0, c1, c2⟩ := Ee.d3;have f0 : w5.frozen? ⟨w.heap.size + 1, 0, none⟩ = false := Ee.frozen 0;have f1 : w5.frozen? ⟨w.heap.size + 1, 1, none⟩ = false := Ee.frozen 1;have f2 : w5.frozen? ⟨w.heap.size + 1, 2, none⟩ = false := Ee.frozen 2
  go_wp2_with fail
  exact bodyPost_ret (v := .agg #[.int .i64 co, .slice Al nl cl, .slice Ap np cp]) (by simp [results, results12, go_sem, c0, c1, c2]) rfl HX.out
theorem pV {a b : List UInt8} {j : Nat} (hi : i < 100) (hj : j < 100) (hl : a.length = b.length) (h : EC a i = EC b j) : a = b ∧ i = j := by
 unfold EC at h;have h1 := List.append_inj h hl;refine ⟨h1.1, ?_⟩;have h2 := h1.2;simp only [List.cons.injEq, and_true] at h2;have e1 := congrArg UInt8.toNat h2.1;have e2 := congrArg UInt8.toNat h2.2;rw [UInt8.toNat_ofNat', UInt8.toNat_ofNat'] at e1 e2;omega
theorem rL (c : UInt8) (i : Nat) (hc : vQ c.toNat true = true) (hi : i < 100) : yI (EC [c] i) = true := by
 unfold yI EC;have e1 : (UInt8.ofNat (48 + i / 10)).toNat = 48 + i / 10 := by rw [UInt8.toNat_ofNat']; omega
 have e2 : (UInt8.ofNat (48 + i % 10)).toNat = 48 + i % 10 := by rw [UInt8.toNat_ofNat']; omega
 have hd : ∀ k : Nat, k < 10 → vQ ((48 + k : Nat) : Int) false = true := by
  intro k hk;rw [qg];have : nC ((48 + k : Nat) : Int) = true := by simp [nC]; omega
  rw [this];simp
 have Du : ∀ k, k < ([c] ++ [UInt8.ofNat (48 + i / 10), UInt8.ofNat (48 + i % 10)]).length → vQ (([c] ++ [UInt8.ofNat (48 + i / 10), UInt8.ofNat (48 + i % 10)]).getD k 0).toNat (k == 0) = true := by
  intro k hk
  match k, hk with
  | 0, _ => exact hc
  | 1, _ =>
   have := hd (i / 10) (by omega);simp only [List.singleton_append, List.getD_cons_succ, List.getD_cons_zero];rw [e1]; exact this
  | 2, _ =>
   have := hd (i % 10) (by omega);simp only [List.singleton_append, List.getD_cons_succ, List.getD_cons_zero];rw [e2]; exact this
  | k + 3, hk => simp at hk; omega
 rw [decide_eq_true Du];simp
theorem uC {k : Nat} (h : 1 ≤ k ∧ k ≤ 6) : ∃ c : UInt8, xM k = [c] ∧ c ≠ 78 ∧ vQ c.toNat true = true := by
 rcases (show k = 1 ∨ k = 2 ∨ k = 3 ∨ k = 4 ∨ k = 5 ∨ k = 6 by omega) with rfl | rfl | rfl | rfl | rfl | rfl
 ·exact ⟨76, rfl, by decide, by decide⟩
 ·exact ⟨81, rfl, by decide, by decide⟩
 ·exact ⟨68, rfl, by decide, by decide⟩
 ·exact ⟨69, rfl, by decide, by decide⟩
 ·exact ⟨83, rfl, by decide, by decide⟩
 ·exact ⟨71, rfl, by decide, by decide⟩
theorem nK {ns : List Nd} (h : ∀ i x, ns[i]? = some x → vM (Un ns i) x = 0) : ∀ (k i : Nat), ns.length - i = k → wo (Un ns i) (ns.drop i) = 0
 | 0, i, hk => by rw [List.drop_eq_nil_of_le (by omega)]; rfl
 | k + 1, i, hk => by
  have hx : ns[i]? = some (ns[i]'(by omega)) := List.getElem?_eq_getElem (by omega);rw [(tw hx (h i _ hx)).1, ← lM hx];exact nK h k (i + 1) (by omega)
theorem nL {ns : List Nd} {ds : List Dv} (h : ∀ j x, ds[j]? = some x → xk ns.length (Ud ns ds j) x = 0) : ∀ (k j : Nat), ds.length - j = k → vg ns.length (Ud ns ds j) (ds.drop j) = 0
 | 0, j, hk => by rw [List.drop_eq_nil_of_le (by omega)]; rfl
 | k + 1, j, hk => by
  have hx : ds[j]? = some (ds[j]'(by omega)) := List.getElem?_eq_getElem (by omega);rw [uT hx (h j _ hx), ← pm hx];exact nL h k (j + 1) (by omega)
section
variable {nodes AV : Int} {ns : List Nd} {ds : List Dv}
theorem uW.check (h : uW nodes AV ns ds) (hn : nodes ≤ 32) (hd : AV ≤ 64) : zR ns ds = 0 := by
 have Gl := h.nm;have Vr := h.dm
 have hN := nK (ns := ns) (fun i x hx => by
  obtain ⟨h1, h2, h3, h4, h5⟩ := h.nok i x hx;have hi : i < ns.length := (List.getElem?_eq_some_iff.1 hx).1;unfold vM;rw [h1, vR, if_neg (by rw [rL 78 i (by decide) (by omega)]; simp), if_neg ?_, if_neg (by omega), if_neg (by simp [ym]; omega)];intro hm;obtain ⟨k, y, hk, hy, he⟩ := pY.1 hm;rw [(h.nok k y hy).1, vR] at he;have := (pV (by omega) (by omega) rfl he).2;omega) _ 0 rfl
 have hD := nL (ns := ns) (ds := ds) (fun j x hx => by
  obtain ⟨h1, h2, h3, h4, h5, h6⟩ := h.dok j x hx;have hj : j < ds.length := (List.getElem?_eq_some_iff.1 hx).1;obtain ⟨c, Mt, Ms, Ac⟩ := uC (k := x.kind.toNat) (by omega);unfold xk;rw [h1, vR, Mt, if_neg (by rw [rL c j Ac (by omega)]; simp), if_neg ?_, if_neg (by omega), if_neg (by rw [h4]; simp), if_neg (by simp [ym]; omega)];intro hm;rcases pZ.1 hm with ⟨k, y, hk, hy, he⟩ | ⟨k, y, hk, hy, he⟩
  ·obtain ⟨g1, g2, g3, _⟩ := h.dok k y hy;obtain ⟨d, BC, _, _⟩ := uC (k := y.kind.toNat) (by omega);rw [g1, vR, BC] at he;have := (pV (a := [d]) (b := [c]) (i := k) (j := j) (by omega) (by omega) rfl he).2;omega
  ·rw [(h.nok k y hy).1, vR] at he;have := (pV (a := [78]) (b := [c]) (i := k) (j := j) (by omega) (by omega) rfl he).1;injection this with this;exact Ms this.symm) _ 0 rfl
 unfold zR;rw [if_neg (by omega), if_neg (by omega), if_pos (by simpa [Un] using hN), sw];simpa [Ud, Un] using hD
theorem uW.names (h : uW nodes AV ns ds) : FO ns ∧ (∀ x ∈ ds, x.name.size ≤ 9223372036854775807) := by
 constructor
 ·intro x hx;obtain ⟨j, hj⟩ := List.mem_iff_getElem?.1 hx;rw [(h.nok j x hj).1, pK];simp [EC]
 ·intro x hx;obtain ⟨j, hj⟩ := List.mem_iff_getElem?.1 hx;obtain ⟨h1, h2, h3, _⟩ := h.dok j x hj;obtain ⟨c, hc, _⟩ := uC (k := x.kind.toNat) (by omega);rw [h1, pK, hc];simp [EC]
end
end Go.Proofs.YtddddlhgaeameaaGreatDoor
