import Derived.Test.YtddddlhgaeameaaGreatDoorM24
import Derived.Laws.StructEq
set_option maxRecDepth 100000
set_option maxHeartbeats 4000000
namespace Go.Proofs.YtddddlhgaeameaaGreatDoor
section
open Go.RowKit
def pA (a b : Lk) : Bool := a.dev == b.dev && a.pos == b.pos && a.key == b.key
theorem xh (a b : Lk) : pA a b = true ↔ a = b := by
 obtain ⟨a1, a2, a3⟩ := a
 obtain ⟨b1, b2, b3⟩ := b
 unfold pA; simp [and_assoc]
theorem ot (d p q d2 p2 q2 : Int) (w : World) : (binOp .neq 87 (.agg #[.int .i64 d, .int .i64 p, .int .i64 q]) (.agg #[.int .i64 d2, .int .i64 p2, .int .i64 q2])).run Tryz.prog w = .ok (.bool (!pA ⟨d, p, q⟩ ⟨d2, p2, q2⟩)) w := by
 have u3 := Tryz.underlying3
 have a3 := Tryz.isAgg3
 have z3 := Tryz.sizeOf3
 have hS : Tryz.prog.underlying 87 = some (.struct (Tryz.prog.fieldsOf 87)) := by kernel_rfl
 have hp : Tryz.prog.stoodInHeld 87 = false := by kernel_rfl
 rw [run_neq_struct, show (10000 : Nat) = 9999 + 1 from rfl, run_equalIn_agg w 9999 87 _ _ hS hp]
 simp only [Program.fieldsOf, Tryz.underlying87]
 go_simp
 by_cases h1 : d = d2 <;> by_cases h2 : p = p2 <;> by_cases h3 : q = q2 <;> simp [h1, h2, h3, pA]
def SaR (w : World) (a b : List Lk) (n gk : Nat) (iv : Value) (wr : World) : Prop := ∃ i : Nat, iv = .int .i64 i ∧ i ≤ n ∧ gk = n - i ∧ Hid (a.take i = b.take i) ∧ Hid (Below w.heap.size w wr)
open Classical in
theorem vF (A A2 : Option Addr) (n c n2 c2 B B2 : Nat) (a b : List Lk) (w : World) (ha : Sl w B 3 A n c (a.flatMap Lk.cells)) (hb : Sl w B2 3 A2 n2 c2 (b.flatMap Lk.cells)) (hB : B ≤ w.heap.size) (hB2 : B2 ≤ w.heap.size) :
 Calls Tryz.prog 27 #[.slice A n c, .slice A2 n2 c2] w fun e w' => e = .returned (.bool (decide (a = b))) ∧ Below w.heap.size w w' := by
 have HLA := iD (ha.len (fun _ => rfl) (by decide)); have HLB := iD (hb.len (fun _ => rfl) (by decide))
 have HA := iD ha; have HBB := iD hb
 have hle := ha.le
 have hle2 := hb.le
 clear ha hb
 by_cases hn : n = n2; rotate_left
 ·have q : ((n : Int) != (n2 : Int)) = true := by simp; omega
  have q2 : decide (n = n2) = false := by simpa using hn
  have HR : Hid (decide (a = b) = false) := by
   unfold Hid; rw [decide_eq_false_iff_not]; intro e; subst e; exact hn (HLA.out.symm.trans HLB.out)
  clear hn
  go_enter Tryz.func27, Tryz.ntmps27
  go_wp2_with fail
  go_ret
  exact ⟨zI HR.out.symm, Below.refl _ _⟩
 subst hn
 go_enter Tryz.func27, Tryz.ntmps27
 go_wp2_with fail
 go_loopg [5] n (SaR w a b n)
 case atStart => exact ⟨0, rfl, Nat.zero_le _, rfl, rfl, Below.refl _ _⟩
 case round =>
  obtain ⟨i, rfl, hi, rfl, heq, hbl⟩ := hrel
  by_cases hlt : i < n
  ·obtain ⟨b0, off, d, p, q, rfl, hb0, hx, c0, c1, c2'⟩ := (HA.out.below hbl.out hB).lock hlt
   obtain ⟨b1, off1, d1, p1, q1, rfl, hb1, hx1, e0, e1, e2⟩ := (HBB.out.below hbl.out hB2).lock hlt
   have HX := iD hx; have HX1 := iD hx1
   have HCS : Hid (wr.cell? ⟨b0, off + i * 3, none⟩ = some (.int .i64 d) ∧ wr.cell? ⟨b0, off + i * 3 + 1, none⟩ = some (.int .i64 p) ∧ wr.cell? ⟨b0, off + i * 3 + 2, none⟩ = some (.int .i64 q) ∧ wr.cell? ⟨b1, off1 + i * 3, none⟩ = some (.int .i64 d1) ∧ wr.cell? ⟨b1, off1 + i * 3 + 1, none⟩ = some (.int .i64 p1) ∧ wr.cell? ⟨b1, off1 + i * 3 + 2, none⟩ = some (.int .i64 q1)) := ⟨c0, c1, c2', e0, e1, e2⟩
   have hneq := fun W => ot d p q d1 p1 q1 W
   clear hx hx1 c0 c1 c2' e0 e1 e2
   rcases hee : pA ⟨d, p, q⟩ ⟨d1, p1, q1⟩ with _ | _
   ·have HR : Hid (decide (a = b) = false) := by
     unfold Hid; rw [decide_eq_false_iff_not]; intro e; subst e
     have := HX.out.symm.trans HX1.out
     injection this with this
     rw [(xh _ _).2 this] at hee; cases hee
    rw [hee] at hneq
    clear hee
    simp only [Bool.not_false] at hneq
    go_upto_region 6 with (fail)
    refine zF (S := fun W' => W'.cell? ⟨b0, off + i * 3, none⟩ = some (.int .i64 d) ∧ W'.cell? ⟨b0, off + i * 3 + 1, none⟩ = some (.int .i64 p) ∧ W'.cell? ⟨b0, off + i * 3 + 2, none⟩ = some (.int .i64 q) ∧ W'.cell? ⟨b1, off1 + i * 3, none⟩ = some (.int .i64 d1) ∧ W'.cell? ⟨b1, off1 + i * 3 + 1, none⟩ = some (.int .i64 p1) ∧ W'.cell? ⟨b1, off1 + i * 3 + 2, none⟩ = some (.int .i64 q1)) (J := []) (by kernel_rfl) ?_ (fun AA => ?_)
    ·exact HCS.out
    try dsimp only at AA
    refine tk 0 17 (mf 9 1) AA ?_
    refine tk 1 18 (mf 9 2) AA ?_
    refine tk 2 19 (mf 9 3) AA ?_
    refine tk 3 20 (mf 9 4) AA ?_
    refine tk 4 21 (mf 9 5) AA ?_
    refine tk 5 22 (mf 9 6) AA ?_
    refine tk 6 23 (mf 9 7) AA ?_
    refine tk 7 24 (mf 9 8) AA ?_
    refine tk 8 25 (mf 9 9) AA ?_
    refine zC (by kernel_rfl) ?_ _
    clear AA
    go_wp2_with fail
    go_ret
    exact ⟨zI HR.out.symm, hbl.out.drew⟩
   ·have HE2 : Hid (a.take (i + 1) = b.take (i + 1)) := by
     unfold Hid; rw [zV HX.out, zV HX1.out, heq.out, (xh _ _).1 hee]
    rw [hee] at hneq
    clear hee
    simp only [Bool.not_true] at hneq
    go_upto_region 6 with (fail)
    refine zF (S := fun W' => W'.cell? ⟨b0, off + i * 3, none⟩ = some (.int .i64 d) ∧ W'.cell? ⟨b0, off + i * 3 + 1, none⟩ = some (.int .i64 p) ∧ W'.cell? ⟨b0, off + i * 3 + 2, none⟩ = some (.int .i64 q) ∧ W'.cell? ⟨b1, off1 + i * 3, none⟩ = some (.int .i64 d1) ∧ W'.cell? ⟨b1, off1 + i * 3 + 1, none⟩ = some (.int .i64 p1) ∧ W'.cell? ⟨b1, off1 + i * 3 + 2, none⟩ = some (.int .i64 q1)) (J := []) (by kernel_rfl) ?_ (fun AA => ?_)
    ·exact HCS.out
    try dsimp only at AA
    refine tk 0 17 (mf 9 1) AA ?_
    refine tk 1 18 (mf 9 2) AA ?_
    refine tk 2 19 (mf 9 3) AA ?_
    refine tk 3 20 (mf 9 4) AA ?_
    refine tk 4 21 (mf 9 5) AA ?_
    refine tk 5 22 (mf 9 6) AA ?_
    refine tk 6 23 (mf 9 7) AA ?_
    refine tk 7 24 (mf 9 8) AA ?_
    refine tk 8 25 (mf 9 9) AA ?_
    refine zC (by kernel_rfl) ?_ _
    clear AA
    go_wp2_with fail
    go_roundg (n - (i + 1))
    case rel => exact ⟨i + 1, by go_num, by omega, rfl, HE2, hbl.out.drew⟩
    case measure => omega
  ·obtain rfl : i = n := by omega
   have hii : decide (i < i) = false := by simp
   have HR : Hid (decide (a = b) = true) := by
    unfold Hid; rw [decide_eq_true_iff]
    have := heq.out
    rwa [List.take_of_length_le (by rw [HLA.out]; exact Nat.le_refl _), List.take_of_length_le (by rw [HLB.out]; exact Nat.le_refl _)] at this
   go_wp2_with fail
   go_ret
   exact ⟨zI HR.out.symm, hbl.out⟩
end
section
open Go.RowKit
section
variable {P : Program} {ops : Array Oper} {A : Act} {L : List (Nat × Value)} {n : Nat} {oi : Oper}
end
end
section
open Go.RowKit
def yi (u : Int) : Int → List Int → Bool
 | _, [] => true
 | p, x :: t => decide (p < x) && decide (x < u) && yi u x t
def vZ : Int → List Int → Int
 | p, [] => p
 | _, x :: t => vZ x t
theorem vw (u x : Int) : ∀ (p : Int) (l : List Int), yi u p (l ++ [x]) = (yi u p l && decide (vZ p l < x) && decide (x < u))
 | p, [] => by
  show (decide (p < x) && decide (x < u) && true) = (true && decide (p < x) && decide (x < u))
  rw [Bool.and_true, Bool.true_and]
 | p, y :: t => by rw [List.cons_append, yi, vw u x y t, yi, vZ]; simp only [Bool.and_assoc]
theorem rr {u : Int} : ∀ {p : Int} {l : List Int} (i : Nat), yi u p l = true → yi u p (l.take i) = true
 | _, [], i, _ => by simp [yi]
 | _, x :: t, 0, _ => by simp [yi]
 | p, x :: t, i + 1, h => by
  rw [yi, Bool.and_eq_true] at h
  rw [List.take_succ_cons, yi, h.1, rr i h.2]; rfl
theorem ub (x : Int) : ∀ (p : Int) (l : List Int), vZ p (l ++ [x]) = x
 | _, [] => rfl
 | _, y :: t => ub x y t
theorem nG {l : List Int} {i : Nat} {x p : Int} (h : l[i]? = some x) : vZ p (l.take (i + 1)) = x := by rw [zV h, ub]
theorem pX {u x : Int} {l : List Int} {i : Nat} (hx : l[i]? = some x) (h : vZ (-1) (l.take i) < x → x < u → False) : yi u (-1) l = false := by
 rw [Bool.eq_false_iff]
 intro e
 have := rr (i + 1) e
 rw [zV hx, vw, Bool.and_eq_true, Bool.and_eq_true] at this
 exact h (by simpa using this.1.2) (by simpa using this.2)
theorem lU {u x : Int} {l : List Int} {i : Nat} (hx : l[i]? = some x) (hp : yi u (-1) (l.take i) = true) (h1 : vZ (-1) (l.take i) < x) (h2 : x < u) : yi u (-1) (l.take (i + 1)) = true := by
 rw [zV hx, vw, hp, decide_eq_true h1, decide_eq_true h2]; rfl
def ik (w : World) (l : List Int) (u : Int) (n gk : Nat) (lv iv : Value) (wr : World) : Prop := ∃ i : Nat, lv = .int .i64 (vZ (-1) (l.take i)) ∧ iv = .int .i64 i ∧ i ≤ n ∧ gk = n - i ∧ wr = w ∧ Hid (yi u (-1) (l.take i) = true)
theorem ox (A : Option Addr) (n c B : Nat) (l : List Int) (u : Int) (w : World) (hs : Sl w B 1 A n c (zK l)) :
 Calls Tryz.prog 102 #[.slice A n c, .int .i64 u] w fun e w' => e = .returned (.bool (yi u (-1) l)) ∧ w = w' := by
 have hle := hs.le
 have HL := iD (hs.len (fun _ => rfl) (by decide))
 have HS := iD hs
 clear hs
 go_enter Tryz.func102, Tryz.ntmps102
 go_wp2_with fail
 go_loopg [5, 11] n (ik w l u n)
 case atStart => exact ⟨0, rfl, rfl, Nat.zero_le _, rfl, rfl, rfl⟩
 case round =>
  obtain ⟨i, rfl, rfl, hi, rfl, rfl, hR⟩ := hrel
  by_cases hlt : i < n
  ·obtain ⟨b, off, x, rfl, hb, hx, hc⟩ := HS.out.at1 hlt
   have HX := iD hx
   have HT : Hid (vZ (-1) (l.take (i + 1)) = x) := nG hx
   obtain ⟨la, hla⟩ : ∃ la, la = vZ (-1) (l.take i) := ⟨_, rfl⟩
   rw [← hla]
   have HLA := iD hla
   clear hx hla
   by_cases h1 : x ≤ la
   ·have q1 : decide (x ≤ la) = true := by simpa using h1
    have HF : Hid (yi u (-1) l = false) := pX HX.out fun h _ => by rw [← HLA.out] at h; omega
    clear h1
    go_wp2_with fail
    go_ret
    exact ⟨zI HF.out.symm, rfl⟩
   have q1 : decide (x ≤ la) = false := by simpa using h1
   by_cases h2 : u ≤ x
   ·have q2 : decide (u ≤ x) = true := by simpa using h2
    have HF : Hid (yi u (-1) l = false) := pX HX.out fun _ h => by omega
    clear h1 h2
    go_wp2_with fail
    go_ret
    exact ⟨zI HF.out.symm, rfl⟩
   have q2 : decide (u ≤ x) = false := by simpa using h2
   have HN : Hid (yi u (-1) (l.take (i + 1)) = true) := lU HX.out hR.out (by rw [← HLA.out]; omega) (by omega)
   clear h1 h2
   go_wp2_with fail
   go_roundg (n - (i + 1))
   case rel => exact ⟨i + 1, by rw [HT.out], by go_num, by omega, rfl, rfl, HN⟩
   case measure => omega
  ·obtain rfl : i = n := by omega
   have hii : decide (i < i) = false := by simp
   have HF : Hid (yi u (-1) l = true) := by have := hR.out; rw [List.take_of_length_le (by rw [HL.out]; exact Nat.le_refl _)] at this; exact this
   go_wp2_with fail
   go_ret
   exact ⟨zI HF.out.symm, rfl⟩
end
section
open Go.RowKit
def zj (u v : Nat → Value) : List (Nat × Nat) → Nat → List Value → List Value
 | [], _, fr => fr
 | _ :: _, _, [] => []
 | (0, 0) :: rs, i, x :: fr => x :: zj u v rs (i + 1) fr
 | (n + 1, 0) :: rs, i, x :: fr => x :: zj u v ((n, 0) :: rs) (i + 1) fr
 | (0, 1) :: rs, i, _ :: fr => u i :: zj u v rs (i + 1) fr
 | (n + 1, 1) :: rs, i, _ :: fr => u i :: zj u v ((n, 1) :: rs) (i + 1) fr
 | (_, j + 2) :: rs, i, _ :: fr => v j :: zj u v rs (i + 1) fr
def gt : List Value → Nat → Value
 | [], _ => undef
 | x :: _, 0 => x
 | _ :: xs, n + 1 => gt xs n
section
variable {P : Program} {Q : Exit → Act → World → Prop} {w : World} {c : Code} {fr fr' : List Value} {k n₀ : Nat}
def v1 (p : Value) : Nat → Value := fun _ => p
def xX (rel : Nat → Value → World → Prop) (rs : List (Nat × Nat)) (fr : List Value) (k : Nat) (a : Act) (w : World) : Prop := ∃ u p, rel k p w ∧ a = ⟨(zj u (v1 p) rs 0 fr).toArray, []⟩
theorem yk (rs : List (Nat × Nat)) (s1 : Nat) (n₀ : Nat) (rel : Nat → Value → World → Prop) (h₀ : rel n₀ (gt fr s1) w) (hv : zj (gt fr) (v1 (gt fr s1)) rs 0 fr = fr)
 (round : ∀ u p n w a, rel n p w → a = ⟨(zj u (v1 p) rs 0 fr).toArray, []⟩ → ∀ (J : Nat → Act → World → Prop) (K : Act → World → Prop), (∀ k a' w', xX rel rs fr k a' w' → J k a' w') → (∀ a' w', Handed J n a' w' → K a' w') → c.wp P (Exit.then K Q) a w) : (Code.loop c).wp P Q ⟨fr.toArray, []⟩ w :=
 wp_loop_ghost_k (xX rel rs fr) n₀ ⟨_, _, h₀, by rw [hv]⟩ fun n a w ⟨u, p, h, ha⟩ J K hJ hK => round u p n w a h ha J K hJ hK
theorem xX.back {rel : Nat → Value → World → Prop} {rs : List (Nat × Nat)} (s1 : Nat) (h : rel k (gt fr' s1) w) (hv : zj (gt fr') (v1 (gt fr' s1)) rs 0 fr = fr') : xX rel rs fr k ⟨fr'.toArray, []⟩ w := ⟨_, _, h, by rw [hv]⟩
def v2 (p q : Value) : Nat → Value
 | 0 => p
 | _ => q
def lG (rel : Nat → Value → Value → World → Prop) (rs : List (Nat × Nat)) (fr : List Value) (k : Nat) (a : Act) (w : World) : Prop := ∃ u p q, rel k p q w ∧ a = ⟨(zj u (v2 p q) rs 0 fr).toArray, []⟩
theorem oZ (rs : List (Nat × Nat)) (s1 s2 : Nat) (n₀ : Nat) (rel : Nat → Value → Value → World → Prop) (h₀ : rel n₀ (gt fr s1) (gt fr s2) w) (hv : zj (gt fr) (v2 (gt fr s1) (gt fr s2)) rs 0 fr = fr)
 (round : ∀ u p q n w a, rel n p q w → a = ⟨(zj u (v2 p q) rs 0 fr).toArray, []⟩ → ∀ (J : Nat → Act → World → Prop) (K : Act → World → Prop), (∀ k a' w', lG rel rs fr k a' w' → J k a' w') → (∀ a' w', Handed J n a' w' → K a' w') → c.wp P (Exit.then K Q) a w) : (Code.loop c).wp P Q ⟨fr.toArray, []⟩ w :=
 wp_loop_ghost_k (lG rel rs fr) n₀ ⟨_, _, _, h₀, by rw [hv]⟩ fun n a w ⟨u, p, q, h, ha⟩ J K hJ hK => round u p q n w a h ha J K hJ hK
theorem lG.back {rel : Nat → Value → Value → World → Prop} {rs : List (Nat × Nat)} (s1 s2 : Nat) (h : rel k (gt fr' s1) (gt fr' s2) w) (hv : zj (gt fr') (v2 (gt fr' s1) (gt fr' s2)) rs 0 fr = fr') : lG rel rs fr k ⟨fr'.toArray, []⟩ w := ⟨_, _, _, h, by rw [hv]⟩
def v3 (p q r : Value) : Nat → Value
 | 0 => p
 | 1 => q
 | _ => r
def iU (rel : Nat → Value → Value → Value → World → Prop) (rs : List (Nat × Nat)) (fr : List Value) (k : Nat) (a : Act) (w : World) : Prop := ∃ u p q r, rel k p q r w ∧ a = ⟨(zj u (v3 p q r) rs 0 fr).toArray, []⟩
theorem iU.back {rel : Nat → Value → Value → Value → World → Prop} {rs : List (Nat × Nat)} (s1 s2 s3 : Nat) (h : rel k (gt fr' s1) (gt fr' s2) (gt fr' s3) w) (hv : zj (gt fr') (v3 (gt fr' s1) (gt fr' s2) (gt fr' s3)) rs 0 fr = fr') : iU rel rs fr k ⟨fr'.toArray, []⟩ w := ⟨_, _, _, _, h, by rw [hv]⟩
def v4 (p q r t : Value) : Nat → Value
 | 0 => p
 | 1 => q
 | 2 => r
 | _ => t
def iT (rel : Nat → Value → Value → Value → Value → World → Prop) (rs : List (Nat × Nat)) (fr : List Value) (k : Nat) (a : Act) (w : World) : Prop := ∃ u p q r t, rel k p q r t w ∧ a = ⟨(zj u (v4 p q r t) rs 0 fr).toArray, []⟩
theorem iT.back {rel : Nat → Value → Value → Value → Value → World → Prop} {rs : List (Nat × Nat)} (s1 s2 s3 s4 : Nat) (h : rel k (gt fr' s1) (gt fr' s2) (gt fr' s3) (gt fr' s4) w) (hv : zj (gt fr') (v4 (gt fr' s1) (gt fr' s2) (gt fr' s3) (gt fr' s4)) rs 0 fr = fr') : iT rel rs fr k ⟨fr'.toArray, []⟩ w := ⟨_, _, _, _, _, h, by rw [hv]⟩
def ie (R : Value → World → Prop) (rs : List (Nat × Nat)) (fr : List Value) (a : Act) (w : World) : Prop := ∃ u p, R p w ∧ a = ⟨(zj u (v1 p) rs 0 fr).toArray, []⟩
theorem ie.back {R : Value → World → Prop} {rs : List (Nat × Nat)} (s1 : Nat) (h : R (gt fr' s1) w) (hv : zj (gt fr') (v1 (gt fr' s1)) rs 0 fr = fr') : ie R rs fr ⟨fr'.toArray, []⟩ w := ⟨_, _, h, by rw [hv]⟩
def ic (R : Value → Value → World → Prop) (rs : List (Nat × Nat)) (fr : List Value) (a : Act) (w : World) : Prop := ∃ u p q, R p q w ∧ a = ⟨(zj u (v2 p q) rs 0 fr).toArray, []⟩
theorem ic.back {R : Value → Value → World → Prop} {rs : List (Nat × Nat)} (s1 s2 : Nat) (h : R (gt fr' s1) (gt fr' s2) w) (hv : zj (gt fr') (v2 (gt fr' s1) (gt fr' s2)) rs 0 fr = fr') : ic R rs fr ⟨fr'.toArray, []⟩ w := ⟨_, _, _, h, by rw [hv]⟩
def ib (R : Value → Value → Value → World → Prop) (rs : List (Nat × Nat)) (fr : List Value) (a : Act) (w : World) : Prop := ∃ u p q r, R p q r w ∧ a = ⟨(zj u (v3 p q r) rs 0 fr).toArray, []⟩
theorem ib.back {R : Value → Value → Value → World → Prop} {rs : List (Nat × Nat)} (s1 s2 s3 : Nat) (h : R (gt fr' s1) (gt fr' s2) (gt fr' s3) w) (hv : zj (gt fr') (v3 (gt fr' s1) (gt fr' s2) (gt fr' s3)) rs 0 fr = fr') : ib R rs fr ⟨fr'.toArray, []⟩ w := ⟨_, _, _, _, h, by rw [hv]⟩
def ia (R : Value → Value → Value → Value → World → Prop) (rs : List (Nat × Nat)) (fr : List Value) (a : Act) (w : World) : Prop := ∃ u p q r t, R p q r t w ∧ a = ⟨(zj u (v4 p q r t) rs 0 fr).toArray, []⟩
theorem ia.back {R : Value → Value → Value → Value → World → Prop} {rs : List (Nat × Nat)} (s1 s2 s3 s4 : Nat) (h : R (gt fr' s1) (gt fr' s2) (gt fr' s3) (gt fr' s4) w) (hv : zj (gt fr') (v4 (gt fr' s1) (gt fr' s2) (gt fr' s3) (gt fr' s4)) rs 0 fr = fr') : ia R rs fr ⟨fr'.toArray, []⟩ w := ⟨_, _, _, _, _, h, by rw [hv]⟩
end
end
end Go.Proofs.YtddddlhgaeameaaGreatDoor
