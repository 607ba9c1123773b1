import Derived.Test.YtepicjpdhpojnaaGreatDoorX22
import Derived.Test.YtepicjpdhpojnaaGreatDoorX23
set_option maxRecDepth 100000
set_option maxHeartbeats 8000000
namespace Go.Proofs.YtepicjpdhpojnaaGreatDoor
section
open Go.RowKit
def xu (ls : List Lk) (k : Lk) : Bool := (tC k ls).isSome
theorem q8 (ls : List Lk) (k : Lk) : xu ls k = true ↔ k ∈ ls := by
 unfold xu
 induction ls with
 | nil => simp [tC]
 | cons x l ih =>
  rw [tC]
  by_cases h : sT k x = true
  ·rw [if_pos h, (yl _ _).1 h]; simp
  ·rw [if_neg h, List.mem_cons]
   have hne : k ≠ x := fun e => h ((yl _ _).2 e)
   rw [Option.isSome_map, ih]
   exact ⟨.inr, fun e => e.resolve_left hne⟩
theorem lN (o : Option Nat) : decide (0 ≤ lO o) = o.isSome := by
 rcases o with _ | i
 ·rfl
 ·show decide ((0 : Int) ≤ i) = true
  simp
theorem lX (A : Option Addr) (n c B : Nat) (ls : List Lk) (d p q : Int) (w : World) (hs : Sl w B 3 A n c (ls.flatMap Lk.cells)) (hB : B ≤ w.heap.size) :
 Calls Tryz.prog 56 #[.slice A n c, .agg #[.int .i64 d, .int .i64 p, .int .i64 q]] w fun e w' => e = .returned (.bool (xu ls ⟨d, p, q⟩)) ∧ Below w.heap.size w w' := by
 have HB : Hid (Below w.heap.size w (w.alloc (.cells #[.int .i64 d, .int .i64 p, .int .i64 q] 46))) := (Below.refl _ _).alloc lR _
 have HK := iD (Blk.new w 46 #[.int .i64 d, .int .i64 p, .int .i64 q])
 have HI := iD (pk A n c B ls d p q (w.alloc (.cells #[.int .i64 d, .int .i64 p, .int .i64 q] 46)) (hs.alloc hB _) (by simp; omega))
 have HR : Hid (decide (0 ≤ lO (tC ⟨d, p, q⟩ ls)) = xu ls ⟨d, p, q⟩) := lN _
 clear hs
 go_enter Tryz.func56, Tryz.ntmps56
 go_wp2_with fail
 generalize World.alloc _ _ = W at *
 refine HI.out.mono ?_
 rintro e w1 ⟨rfl, hb1⟩
 have HB1 := iD (HB.out.trans (hb1.mono HB.out.size))
 clear hb1
 go_wp2_with fail
 go_ret
 exact ⟨zP HR.out, HB1.out⟩
theorem nj (cb nn : Nat) (Ac : Option Addr) (B : Nat) (cl : List Int) (v : Int) (W : World) (hc : W.cell? ⟨cb, 0, none⟩ = some (.slice Ac nn nn)) (hs : Sl W B 1 Ac nn nn (zK cl)) (hv : 0 ≤ v ∧ v < nn) :
 FnGives Tryz.prog 53 #[.pointer (some ⟨cb, 0, none⟩)] #[.int .i64 v] (.bool (!(bits BinOp.and IntKind.i64 (cl.getD v.toNat 0) 1 == 0))) W := by
 obtain ⟨k, rfl⟩ := Int.eq_ofNat_of_zero_le hv.1
 have hk : k < nn := by omega
 have hle := hs.le
 obtain ⟨b, off, x, rfl, hb, hx, hcx⟩ := hs.at1 hk
 have HX : Hid (cl.getD (k : Int).toNat 0 = x) := by unfold Hid; rw [Int.toNat_natCast, List.getD_eq_getElem?_getD, hx]; rfl
 show Calls Tryz.prog 53 #[.int .i64 (k : Int), .pointer (some ⟨cb, 0, none⟩)] W _
 clear hx hs hv
 go_enter Tryz.func53, Tryz.ntmps53
 go_wp2_with fail
 go_ret
 exact ⟨by rw [HX.out]; rfl, 0, rfl⟩
theorem lq (fb : Nat) (Al : Option Addr) (nl cl : Nat) (B : Nat) (ls : List Lk) (d p q : Int) (W : World) (hc : W.cell? ⟨fb, 1, none⟩ = some (.slice Al nl cl)) (hs : Sl W B 3 Al nl cl (ls.flatMap Lk.cells)) (hB : B ≤ W.heap.size) :
 Calls Tryz.prog 55 (#[.agg #[.int .i64 d, .int .i64 p, .int .i64 q]] ++ #[.pointer (some ⟨fb, 0, none⟩)]) W fun e w' => e = .returned (.bool (!xu ls ⟨d, p, q⟩)) ∧ Below W.heap.size W w' := by
 have HB : Hid (Below W.heap.size W (W.alloc (.cells #[.int .i64 d, .int .i64 p, .int .i64 q] 46))) := (Below.refl _ _).alloc lR _
 have HCK := iD (lX Al nl cl B ls d p q (W.alloc (.cells #[.int .i64 d, .int .i64 p, .int .i64 q] 46)) (hs.alloc hB _) (by simp; omega))
 have HK := iD (Blk.new W 46 #[.int .i64 d, .int .i64 p, .int .i64 q])
 have hfb : fb < W.heap.size := World.block_lt_of_cell? W ⟨fb, 1, none⟩ hc
 have hc2 : (W.alloc (.cells #[.int .i64 d, .int .i64 p, .int .i64 q] 46)).cell? ⟨fb, 1, none⟩ = some (.slice Al nl cl) := (HB.out.cell (p := ⟨fb, 1, none⟩) hfb).trans hc
 have k0 : (W.alloc (.cells #[.int .i64 d, .int .i64 p, .int .i64 q] 46)).cell? ⟨W.heap.size, 0, none⟩ = some (.int .i64 d) := HK.out.cell 0
 have k1 : (W.alloc (.cells #[.int .i64 d, .int .i64 p, .int .i64 q] 46)).cell? ⟨W.heap.size, 1, none⟩ = some (.int .i64 p) := HK.out.cell 1
 have k2 : (W.alloc (.cells #[.int .i64 d, .int .i64 p, .int .i64 q] 46)).cell? ⟨W.heap.size, 2, none⟩ = some (.int .i64 q) := HK.out.cell 2
 show Calls Tryz.prog 55 #[.agg #[.int .i64 d, .int .i64 p, .int .i64 q], .pointer (some ⟨fb, 0, none⟩)] W _
 clear hs hc
 go_enter Tryz.func55, Tryz.ntmps55
 go_upto_region 1 with (fail)
 generalize World.alloc _ _ = W2 at *
 go_wp2_with fail
 refine HCK.out.mono ?_
 rintro e w1 ⟨rfl, hb1⟩
 have HB1 := iD (HB.out.trans (hb1.mono HB.out.size))
 clear hb1
 go_wp2_with fail
 go_ret
 exact ⟨rfl, HB1.out⟩
end
section
open Go.RowKit
def zi (u v : Nat → Value) : List (Nat × Nat) → Nat → List Value → List Value
 | [], _, fr => fr
 | _ :: _, _, [] => []
 | (0, 0) :: rs, i, x :: fr => x :: zi u v rs (i + 1) fr
 | (n + 1, 0) :: rs, i, x :: fr => x :: zi u v ((n, 0) :: rs) (i + 1) fr
 | (0, 1) :: rs, i, _ :: fr => u i :: zi u v rs (i + 1) fr
 | (n + 1, 1) :: rs, i, _ :: fr => u i :: zi u v ((n, 1) :: rs) (i + 1) fr
 | (_, j + 2) :: rs, i, _ :: fr => v j :: zi u v rs (i + 1) fr
def gt : List Value → Nat → Value
 | [], _ => undef
 | x :: _, 0 => x
 | _ :: xs, n + 1 => gt xs n
section
variable {P : Program} {Q : Exit → Act → World → Prop} {w : World} {c : Code} {fr fr' : List Value} {k n₀ : Nat}
def v1 (p : Value) : Nat → Value := fun _ => p
def vL (rel : Nat → Value → World → Prop) (rs : List (Nat × Nat)) (fr : List Value) (k : Nat) (a : Act) (w : World) : Prop := ∃ u p, rel k p w ∧ a = ⟨(zi u (v1 p) rs 0 fr).toArray, []⟩
theorem yO (rs : List (Nat × Nat)) (s1 : Nat) (n₀ : Nat) (rel : Nat → Value → World → Prop) (h₀ : rel n₀ (gt fr s1) w) (hv : zi (gt fr) (v1 (gt fr s1)) rs 0 fr = fr)
 (round : ∀ u p n w a, rel n p w → a = ⟨(zi u (v1 p) rs 0 fr).toArray, []⟩ → ∀ (J : Nat → Act → World → Prop) (K : Act → World → Prop), (∀ k a' w', vL rel rs fr k a' w' → J k a' w') → (∀ a' w', Handed J n a' w' → K a' w') → c.wp P (Exit.then K Q) a w) : (Code.loop c).wp P Q ⟨fr.toArray, []⟩ w :=
 wp_loop_ghost_k (vL rel rs fr) n₀ ⟨_, _, h₀, by rw [hv]⟩ fun n a w ⟨u, p, h, ha⟩ J K hJ hK => round u p n w a h ha J K hJ hK
theorem vL.back {rel : Nat → Value → World → Prop} {rs : List (Nat × Nat)} (s1 : Nat) (h : rel k (gt fr' s1) w) (hv : zi (gt fr') (v1 (gt fr' s1)) rs 0 fr = fr') : vL rel rs fr k ⟨fr'.toArray, []⟩ w := ⟨_, _, h, by rw [hv]⟩
def v2 (p q : Value) : Nat → Value
 | 0 => p
 | _ => q
def uP (rel : Nat → Value → Value → World → Prop) (rs : List (Nat × Nat)) (fr : List Value) (k : Nat) (a : Act) (w : World) : Prop := ∃ u p q, rel k p q w ∧ a = ⟨(zi u (v2 p q) rs 0 fr).toArray, []⟩
theorem xw (rs : List (Nat × Nat)) (s1 s2 : Nat) (n₀ : Nat) (rel : Nat → Value → Value → World → Prop) (h₀ : rel n₀ (gt fr s1) (gt fr s2) w) (hv : zi (gt fr) (v2 (gt fr s1) (gt fr s2)) rs 0 fr = fr)
 (round : ∀ u p q n w a, rel n p q w → a = ⟨(zi u (v2 p q) rs 0 fr).toArray, []⟩ → ∀ (J : Nat → Act → World → Prop) (K : Act → World → Prop), (∀ k a' w', uP rel rs fr k a' w' → J k a' w') → (∀ a' w', Handed J n a' w' → K a' w') → c.wp P (Exit.then K Q) a w) : (Code.loop c).wp P Q ⟨fr.toArray, []⟩ w :=
 wp_loop_ghost_k (uP rel rs fr) n₀ ⟨_, _, _, h₀, by rw [hv]⟩ fun n a w ⟨u, p, q, h, ha⟩ J K hJ hK => round u p q n w a h ha J K hJ hK
theorem uP.back {rel : Nat → Value → Value → World → Prop} {rs : List (Nat × Nat)} (s1 s2 : Nat) (h : rel k (gt fr' s1) (gt fr' s2) w) (hv : zi (gt fr') (v2 (gt fr' s1) (gt fr' s2)) rs 0 fr = fr') : uP rel rs fr k ⟨fr'.toArray, []⟩ w := ⟨_, _, _, h, by rw [hv]⟩
def v3 (p q r : Value) : Nat → Value
 | 0 => p
 | 1 => q
 | _ => r
def iB (rel : Nat → Value → Value → Value → World → Prop) (rs : List (Nat × Nat)) (fr : List Value) (k : Nat) (a : Act) (w : World) : Prop := ∃ u p q r, rel k p q r w ∧ a = ⟨(zi u (v3 p q r) rs 0 fr).toArray, []⟩
theorem iB.back {rel : Nat → Value → Value → Value → World → Prop} {rs : List (Nat × Nat)} (s1 s2 s3 : Nat) (h : rel k (gt fr' s1) (gt fr' s2) (gt fr' s3) w) (hv : zi (gt fr') (v3 (gt fr' s1) (gt fr' s2) (gt fr' s3)) rs 0 fr = fr') : iB rel rs fr k ⟨fr'.toArray, []⟩ w := ⟨_, _, _, _, h, by rw [hv]⟩
def v4 (p q r t : Value) : Nat → Value
 | 0 => p
 | 1 => q
 | 2 => r
 | _ => t
def iA (rel : Nat → Value → Value → Value → Value → World → Prop) (rs : List (Nat × Nat)) (fr : List Value) (k : Nat) (a : Act) (w : World) : Prop := ∃ u p q r t, rel k p q r t w ∧ a = ⟨(zi u (v4 p q r t) rs 0 fr).toArray, []⟩
theorem iA.back {rel : Nat → Value → Value → Value → Value → World → Prop} {rs : List (Nat × Nat)} (s1 s2 s3 s4 : Nat) (h : rel k (gt fr' s1) (gt fr' s2) (gt fr' s3) (gt fr' s4) w) (hv : zi (gt fr') (v4 (gt fr' s1) (gt fr' s2) (gt fr' s3) (gt fr' s4)) rs 0 fr = fr') : iA rel rs fr k ⟨fr'.toArray, []⟩ w := ⟨_, _, _, _, _, h, by rw [hv]⟩
def nR (R : Value → World → Prop) (rs : List (Nat × Nat)) (fr : List Value) (a : Act) (w : World) : Prop := ∃ u p, R p w ∧ a = ⟨(zi u (v1 p) rs 0 fr).toArray, []⟩
theorem nR.back {R : Value → World → Prop} {rs : List (Nat × Nat)} (s1 : Nat) (h : R (gt fr' s1) w) (hv : zi (gt fr') (v1 (gt fr' s1)) rs 0 fr = fr') : nR R rs fr ⟨fr'.toArray, []⟩ w := ⟨_, _, h, by rw [hv]⟩
def iK (R : Value → Value → World → Prop) (rs : List (Nat × Nat)) (fr : List Value) (a : Act) (w : World) : Prop := ∃ u p q, R p q w ∧ a = ⟨(zi u (v2 p q) rs 0 fr).toArray, []⟩
theorem iK.back {R : Value → Value → World → Prop} {rs : List (Nat × Nat)} (s1 s2 : Nat) (h : R (gt fr' s1) (gt fr' s2) w) (hv : zi (gt fr') (v2 (gt fr' s1) (gt fr' s2)) rs 0 fr = fr') : iK R rs fr ⟨fr'.toArray, []⟩ w := ⟨_, _, _, h, by rw [hv]⟩
def iJ (R : Value → Value → Value → World → Prop) (rs : List (Nat × Nat)) (fr : List Value) (a : Act) (w : World) : Prop := ∃ u p q r, R p q r w ∧ a = ⟨(zi u (v3 p q r) rs 0 fr).toArray, []⟩
theorem iJ.back {R : Value → Value → Value → World → Prop} {rs : List (Nat × Nat)} (s1 s2 s3 : Nat) (h : R (gt fr' s1) (gt fr' s2) (gt fr' s3) w) (hv : zi (gt fr') (v3 (gt fr' s1) (gt fr' s2) (gt fr' s3)) rs 0 fr = fr') : iJ R rs fr ⟨fr'.toArray, []⟩ w := ⟨_, _, _, _, h, by rw [hv]⟩
def iI (R : Value → Value → Value → Value → World → Prop) (rs : List (Nat × Nat)) (fr : List Value) (a : Act) (w : World) : Prop := ∃ u p q r t, R p q r t w ∧ a = ⟨(zi u (v4 p q r t) rs 0 fr).toArray, []⟩
theorem iI.back {R : Value → Value → Value → Value → World → Prop} {rs : List (Nat × Nat)} (s1 s2 s3 s4 : Nat) (h : R (gt fr' s1) (gt fr' s2) (gt fr' s3) (gt fr' s4) w) (hv : zi (gt fr') (v4 (gt fr' s1) (gt fr' s2) (gt fr' s3) (gt fr' s4)) rs 0 fr = fr') : iI R rs fr ⟨fr'.toArray, []⟩ w := ⟨_, _, _, _, _, h, by rw [hv]⟩
end
end
section
open Go.RowKit
def iG (w : World) (cn cf : Array Value) (s : List Int) (ls : List Lk) (n gk : Nat) (iv : Value) (wr : World) : Prop := ∃ i : Nat, iv = .int .i64 i ∧ i ≤ n ∧ gk = n - i ∧ Hid (uk s (ls.take i)) ∧ Hid (vv w cn cf wr)
def iF (w : World) (cn cf : Array Value) (nd : Nat) (st : List Int) (n gk : Nat) (iv : Value) (wr : World) : Prop := ∃ i : Nat, iv = .int .i64 i ∧ i ≤ n ∧ gk = n - i ∧ Hid (∀ j, j < i → vx nd st j = false) ∧ Hid (vv w cn cf wr)
theorem uk.snoc {s : List Int} {ls : List Lk} {i : Nat} {k : Lk} (h : uk s (ls.take i)) (hk : ls[i]? = some k) (he : s.getD k.dev.toNat 0 = k.pos) : uk s (ls.take (i + 1)) := by
 rw [zt hk]
 intro x hx
 rcases List.mem_append.1 hx with h1 | h1
 ·exact h x h1
 ·rw [List.mem_singleton.1 h1]; exact he
theorem uk.not {s : List Int} {ls : List Lk} {i : Nat} {k : Lk} (hk : ls[i]? = some k) (he : s.getD k.dev.toNat 0 ≠ k.pos) : ¬ uk s ls := fun h => he (h k (List.mem_of_getElem? hk))
theorem un {nd : Nat} {st : List Int} {i : Nat} (hi : i < st.length) (h : vx nd st i = true) : ¬ xh nd st := fun k => by rw [k i hi] at h; cases h
theorem te {nd : Nat} {st : List Int} {i : Nat} (h : ∀ j, j < i → vx nd st j = false) (hi : vx nd st i = false) : ∀ j, j < i + 1 → vx nd st j = false := fun j hj => by
 rcases Nat.lt_succ_iff_lt_or_eq.1 hj with h1 | rfl
 ·exact h j h1
 ·exact hi
theorem vG (An Ad As Al At : Option Addr) (nn cn nd cd n c nl cl nt ct : Nat) (ns : List Nd) (ds : List Dv) (F : Fd) (w : World) (h : FdM w An Ad As Al At nn cn nd cd n c nl cl nt ct ns ds F) :
 Calls Tryz.prog 27 #[.agg #[.slice An nn cn, .slice Ad nd cd], .agg #[.slice As n c, .slice Al nl cl, .slice At nt ct]] w fun e w' => e = .returned (.int .i64 (zk ns ds F)) ∧ Below w.heap.size w w' := by
 obtain ⟨-, hl2, hl3, hl4, hl5⟩ := h.ln
 have HL2 := iD hl2; have HL3 := iD hl3; have HL4 := iD hl4; have HL5 := iD hl5
 have hlm := h.hl.le; have htm := h.ht.le; have hsm := h.hs.le; have hdm := h.hd.le
 have HB := iD (vv.new w #[.slice An nn cn, .slice Ad nd cd] #[.slice As n c, .slice Al nl cl, .slice At nt ct])
 have HH := iD h
 clear h hl2 hl3 hl4 hl5
 go_enter Tryz.func27, Tryz.ntmps27
 go_upto_region 1 with (fail)
 generalize World.alloc _ _ = w1 at *
 have HM1 := iD (HH.out.later HB.out.bl)
 have k0 : w1.cell? ⟨w.heap.size, 0, none⟩ = some (.slice An nn cn) := HB.out.b0.cell 0
 have k1 : w1.cell? ⟨w.heap.size, 1, none⟩ = some (.slice Ad nd cd) := HB.out.b0.cell 1
 have f0 : w1.cell? ⟨w.heap.size + 1, 0, none⟩ = some (.slice As n c) := HB.out.b1.cell 0
 go_wp2_with fail
 clear k0 k1 f0
 refine (ro An Ad As nn cn nd cd n c _ _ _ ns ds F.s w1 HM1.out.la HM1.out.hn HM1.out.hd HM1.out.hs lR lR lR HM1.out.sn HM1.out.sd).mono ?_
 rintro e w2 ⟨rfl, hb2⟩
 have HB2 := iD (HB.out.later hb2)
 have HM2 := iD (HM1.out.later hb2)
 clear hb2 HB HM1
 by_cases hE : zV ns ds F.s = 0; rotate_left
 ·have q0 : (zV ns ds F.s != 0) = true := by simpa using hE
  have HR := iD (ud hE)
  clear hE
  go_wp2_with fail
  go_ret
  exact ⟨zI HR.out.symm, HB2.out.bl⟩
 have HSE := iD hE
 rw [hE]
 clear hE
 have k0 : w2.cell? ⟨w.heap.size, 0, none⟩ = some (.slice An nn cn) := HB2.out.b0.cell 0
 have k1 : w2.cell? ⟨w.heap.size, 1, none⟩ = some (.slice Ad nd cd) := HB2.out.b0.cell 1
 have f1 : w2.cell? ⟨w.heap.size + 1, 1, none⟩ = some (.slice Al nl cl) := HB2.out.b1.cell 1
 go_wp2_with fail
 clear k0 k1 f1
 refine (vC An Ad Al nn cn nd cd nl cl _ _ _ ns ds F.ls w2 HM2.out.la HM2.out.hn HM2.out.hd HM2.out.hl lR lR lR HM2.out.sn HM2.out.sd).mono ?_
 rintro e w3 ⟨rfl, hb3⟩
 have HB3 := iD (HB2.out.later hb3)
 clear hb3 HB2 HM2
 by_cases hE : zL ns ds F.ls = 0; rotate_left
 ·have q0 : (zL ns ds F.ls != 0) = true := by simpa using hE
  have HR := iD (ue HSE.out hE)
  clear hE
  go_wp2_with fail
  go_ret
  exact ⟨zI HR.out.symm, HB3.out.bl⟩
 have HLE := iD hE
 rw [hE]
 clear hE
 have f1 : w3.cell? ⟨w.heap.size + 1, 1, none⟩ = some (.slice Al nl cl) := HB3.out.b1.cell 1
 go_wp2_with fail
 clear f1
 refine yO [(3, 0), (0, 1), (2, 0), (0, 1), (18, 0), (0, 2), (12, 1), (31, 0)] 28 (nl) (iG w #[.slice An nn cn, .slice Ad nd cd] #[.slice As n c, .slice Al nl cl, .slice At nt ct] F.s F.ls nl) (by dsimp only [gt]; exact ⟨0, rfl, Nat.zero_le _, rfl, fun _ hk => by simp at hk, HB3⟩) (by kernel_rfl) ?_
 intro u1 p28 gk wr a hrel ha J1 K1 hJ1 hK1
 dsimp only [zi, v1, Nat.reduceAdd] at ha
 subst ha
 clear HB3
 obtain ⟨i, rfl, hi, rfl, hLS, hB⟩ := hrel
 have HM := iD (HH.out.later hB.out.bl)
 by_cases hlt : i < nl
 ·obtain ⟨b, off, d, p, q, hA, hbb, hx, c0, c1, c2⟩ := HM.out.hl.lock hlt
  subst hA
  have HX := iD hx
  obtain ⟨hd0, hd1, -⟩ := sN ((y8 HLE.out).2.1 _ (List.mem_of_getElem? hx))
  simp only at hd0 hd1
  obtain ⟨d, rfl⟩ := Int.eq_ofNat_of_zero_le hd0
  have hdn : d < n := by have := (yD HSE.out).2.1; rw [HL3.out] at this; omega
  obtain ⟨bs, os, sv, hAs, hbs, hsv, hcs⟩ := HM.out.hs.at1 hdn
  subst hAs
  have HSV := iD (q9 hsv)
  clear hx hsv hd0 hd1
  go_upto_region 10 with (fail)
  have HBE : Hid (Below wr.heap.size wr (wr.alloc (.cells #[.int .i64 (d : Int), .int .i64 p, .int .i64 q] 46))) := (Below.refl _ _).alloc lR _
  have HBL := iD (Blk.new wr 46 #[.int .i64 (d : Int), .int .i64 p, .int .i64 q])
  have HBN := iD (hB.out.later HBE.out)
  replace hcs := (HBE.out.cell (p := ⟨bs, os + d, none⟩) hbs).trans hcs
  clear hB HM HBE c0 c1 c2
  generalize World.alloc wr _ = W at *
  obtain ⟨lb, hlb⟩ : ∃ x, x = wr.heap.size := ⟨_, rfl⟩
  rw [← hlb] at HBL ⊢
  clear hlb hbs hbb
  have f0 : W.cell? ⟨w.heap.size + 1, 0, none⟩ = some (.slice (some ⟨bs, os, none⟩) n c) := HBN.out.b1.cell 0
  have l0 : W.cell? ⟨lb, 0, none⟩ = some (.int .i64 (d : Int)) := HBL.out.cell 0
  have l1 : W.cell? ⟨lb, 1, none⟩ = some (.int .i64 p) := HBL.out.cell 1
  clear HBL
  by_cases hp : sv = p
  ·have q1 : (sv != p) = false := by simpa using hp
   have HN := iD (hLS.out.snoc HX.out (by simp only [Int.toNat_natCast]; rw [HSV.out, hp]))
   clear hp
   go_quiet (fail)
   go_wp2_with fail
   refine Handed.intro (nl - (i + 1)) (by omega) (hJ1 _ _ _ (vL.back 28 ?_ (by kernel_rfl)))
   dsimp only [gt]
   exact ⟨i + 1, by go_num, by omega, rfl, HN, HBN.out.drewN _⟩
  ·have q1 : (sv != p) = true := by simpa using hp
   have q2 : (sv == p) = false := by simpa using hp
   have HR := iD (r8 HSE.out HLE.out (uk.not HX.out (by simp only [Int.toNat_natCast]; rw [HSV.out]; exact hp)))
   clear hp
   go_quiet (fail)
   go_wp2_with fail
   go_ret
   exact ⟨zI HR.out.symm, (HBN.out.drewN _).bl⟩
 ·obtain rfl : i = nl := by omega
  have hii : decide (i < i) = false := by simp
  have HLS : Hid (uk F.s F.ls) := by have := hLS.out; rwa [List.take_of_length_le (by rw [HL4.out]; exact Nat.le_refl _)] at this
  have f2 : wr.cell? ⟨w.heap.size + 1, 2, none⟩ = some (.slice At nt ct) := hB.out.b1.cell 2
  clear hLS HM
  go_wp2_with fail
  clear f2
  refine yO [(3, 0), (0, 1), (3, 0), (1, 1), (33, 0), (0, 2), (27, 1)] 45 (nt) (iF w #[.slice An nn cn, .slice Ad nd cd] #[.slice As n c, .slice Al i cl, .slice At nt ct] nd F.st nt) (by dsimp only [gt]; exact ⟨0, rfl, Nat.zero_le _, rfl, fun _ hk => by omega, hB⟩) (by kernel_rfl) ?_
  intro u2 p45 gk wq a hrel ha J2 K2 hJ2 hK2
  dsimp only [zi, v1, Nat.reduceAdd] at ha
  subst ha
  clear hB
  obtain ⟨j, rfl, hj, rfl, hSt, hB⟩ := hrel
  have HM := iD (HH.out.later hB.out.bl)
  by_cases hlt : j < nt
  ·obtain ⟨bt, ot, tv, hAt, hbt, htv, hct⟩ := HM.out.ht.at1 hlt
   subst hAt
   have k1 : wq.cell? ⟨w.heap.size, 1, none⟩ = some (.slice Ad nd cd) := hB.out.b0.cell 1
   have f2 : wq.cell? ⟨w.heap.size + 1, 2, none⟩ = some (.slice (some ⟨bt, ot, none⟩) nt ct) := hB.out.b1.cell 2
   have HTV := iD htv
   have HJL : Hid (j < F.st.length) := by unfold Hid; rw [HL5.out]; exact hlt
   by_cases h0 : tv < 0
   ·have q0 : decide (tv < 0) = true := by simpa using h0
    have HR := iD (vF HSE.out HLE.out HLS.out (un HJL.out (by rw [HL2.out]; unfold vx; rw [HTV.out]; simp [h0])))
    clear h0 htv
    go_wp2_with fail
    go_ret
    exact ⟨zI HR.out.symm, hB.out.bl⟩
   ·have q0 : decide (tv < 0) = false := by simpa using h0
    by_cases h1 : (nd : Int) ≤ tv
    ·have q1 : decide ((nd : Int) ≤ tv) = true := by simpa using h1
     have HR := iD (vF HSE.out HLE.out HLS.out (un HJL.out (by rw [HL2.out]; unfold vx; rw [HTV.out]; simp [h1])))
     clear h0 h1 htv
     go_wp2_with fail
     go_ret
     exact ⟨zI HR.out.symm, hB.out.bl⟩
    ·have q1 : decide ((nd : Int) ≤ tv) = false := by simpa using h1
     by_cases hj0 : j = 0
     ·have q2 : decide (0 < (j : Int)) = false := by simp; omega
      have q2n : decide (0 < j) = false := by simp; omega
      have HN := iD (te hSt.out (by unfold vx; rw [HTV.out]; simp [h0, h1, hj0]))
      clear h0 h1 hj0 htv
      go_wp2_with fail
      refine Handed.intro (nt - (j + 1)) (by omega) (hJ2 _ _ _ (vL.back 45 ?_ (by kernel_rfl)))
      dsimp only [gt]
      exact ⟨j + 1, by go_num, by omega, rfl, HN, hB⟩
     ·obtain ⟨m, hm⟩ : ∃ m, m = j - 1 := ⟨_, rfl⟩
      have hmt : m < nt := by omega
      have e1 : (j : Int) - 1 = (m : Int) := by omega
      have q2 : decide (0 < (j : Int)) = true := by simp; omega
      have q2n : decide (0 < j) = true := by simp; omega
      obtain ⟨bt2, ot2, pv, hAt, -, hpv, hcp⟩ := HM.out.ht.at1 hmt
      injection hAt with hAt
      injection hAt with hA1 hA2
      subst hA1 hA2
      have HPV : Hid (F.st.getD (j - 1) 0 = pv) := by unfold Hid; rw [← hm]; exact q9 hpv
      by_cases h2 : tv ≤ pv
      ·have q3 : decide (tv ≤ pv) = true := by simpa using h2
       have HR := iD (vF HSE.out HLE.out HLS.out (un HJL.out (by rw [HL2.out]; unfold vx; rw [HTV.out]; simp only; rw [HPV.out, q2n, q3]; simp)))
       clear h0 h1 h2 hj0 htv hpv hm
       go_wp2_with fail
       go_ret
       exact ⟨zI HR.out.symm, hB.out.bl⟩
      ·have q3 : decide (tv ≤ pv) = false := by simpa using h2
       have HN := iD (te hSt.out (by unfold vx; rw [HTV.out]; simp only; rw [HPV.out, q0, q1, q3]; simp))
       clear h0 h1 h2 hj0 htv hpv hm
       go_wp2_with fail
       refine Handed.intro (nt - (j + 1)) (by omega) (hJ2 _ _ _ (vL.back 45 ?_ (by kernel_rfl)))
       dsimp only [gt]
       exact ⟨j + 1, by go_num, by omega, rfl, HN, hB⟩
  ·obtain rfl : j = nt := by omega
   have hjj : decide (j < j) = false := by simp
   have HR := iD (wJ HSE.out HLE.out HLS.out (fun j hj => by rw [HL2.out]; exact hSt.out j (by rw [HL5.out] at hj; exact hj)))
   go_wp2_with fail
   go_ret
   exact ⟨zI HR.out.symm, hB.out.bl⟩
theorem wF (An Ad As Al At : Option Addr) (nn cn nd cd n c nl cl nt ct : Nat) (ns : List Nd) (ds : List Dv) (F : Fd) (w : World) (h : FdM w An Ad As Al At nn cn nd cd n c nl cl nt ct ns ds F) :
 Calls Tryz.prog 28 #[.agg #[.slice An nn cn, .slice Ad nd cd], .agg #[.slice As n c, .slice Al nl cl, .slice At nt ct]] w fun e w' => e = .returned (.int .i64 (zk ns ds F)) ∧ Below w.heap.size w w' := by
 obtain ⟨-, hl2, hl3, hl4, hl5⟩ := h.ln
 have HL2 := iD hl2; have HL3 := iD hl3; have HL4 := iD hl4; have HL5 := iD hl5
 have hlm := h.hl.le; have htm := h.ht.le; have hsm := h.hs.le; have hdm := h.hd.le
 have HB := iD (vv.new w #[.slice An nn cn, .slice Ad nd cd] #[.slice As n c, .slice Al nl cl, .slice At nt ct])
 have HH := iD h
 clear h hl2 hl3 hl4 hl5
 go_enter Tryz.func28, Tryz.ntmps28
 go_upto_region 1 with (fail)
 generalize World.alloc _ _ = w1 at *
 have HM1 := iD (HH.out.later HB.out.bl)
 have k0 : w1.cell? ⟨w.heap.size, 0, none⟩ = some (.slice An nn cn) := HB.out.b0.cell 0
 have k1 : w1.cell? ⟨w.heap.size, 1, none⟩ = some (.slice Ad nd cd) := HB.out.b0.cell 1
 have f0 : w1.cell? ⟨w.heap.size + 1, 0, none⟩ = some (.slice As n c) := HB.out.b1.cell 0
 go_wp2_with fail
 clear k0 k1 f0
 refine (rW An Ad As nn cn nd cd n c _ _ _ ns ds F.s w1 HM1.out.hn HM1.out.hd HM1.out.hs lR lR lR HM1.out.sn HM1.out.sd).mono ?_
 rintro e w2 ⟨rfl, hb2⟩
 have HB2 := iD (HB.out.later hb2)
 have HM2 := iD (HM1.out.later hb2)
 clear hb2 HB HM1
 by_cases hE : zV ns ds F.s = 0; rotate_left
 ·have q0 : (zV ns ds F.s != 0) = true := by simpa using hE
  have HR := iD (ud hE)
  clear hE
  go_wp2_with fail
  go_ret
  exact ⟨zI HR.out.symm, HB2.out.bl⟩
 have HSE := iD hE
 rw [hE]
 clear hE
 have k0 : w2.cell? ⟨w.heap.size, 0, none⟩ = some (.slice An nn cn) := HB2.out.b0.cell 0
 have k1 : w2.cell? ⟨w.heap.size, 1, none⟩ = some (.slice Ad nd cd) := HB2.out.b0.cell 1
 have f1 : w2.cell? ⟨w.heap.size + 1, 1, none⟩ = some (.slice Al nl cl) := HB2.out.b1.cell 1
 go_wp2_with fail
 clear k0 k1 f1
 refine (xY An Ad Al nn cn nd cd nl cl _ _ _ ns ds F.ls w2 HM2.out.hn HM2.out.hd HM2.out.hl lR lR lR HM2.out.sn HM2.out.sd).mono ?_
 rintro e w3 ⟨rfl, hb3⟩
 have HB3 := iD (HB2.out.later hb3)
 clear hb3 HB2 HM2
 by_cases hE : zL ns ds F.ls = 0; rotate_left
 ·have q0 : (zL ns ds F.ls != 0) = true := by simpa using hE
  have HR := iD (ue HSE.out hE)
  clear hE
  go_wp2_with fail
  go_ret
  exact ⟨zI HR.out.symm, HB3.out.bl⟩
 have HLE := iD hE
 rw [hE]
 clear hE
 go_wp2_with fail
 refine yO [(3, 0), (0, 1), (1, 0), (0, 2), (14, 0), (23, 1), (41, 0)] 7 (nl) (iG w #[.slice An nn cn, .slice Ad nd cd] #[.slice As n c, .slice Al nl cl, .slice At nt ct] F.s F.ls nl) (by dsimp only [gt]; exact ⟨0, rfl, Nat.zero_le _, rfl, fun _ hk => by simp at hk, HB3⟩) (by kernel_rfl) ?_
 intro u1 p7 gk wr a hrel ha J1 K1 hJ1 hK1
 dsimp only [zi, v1, Nat.reduceAdd] at ha
 subst ha
 clear HB3
 obtain ⟨i, rfl, hi, rfl, hLS, hB⟩ := hrel
 have HM := iD (HH.out.later hB.out.bl)
 have f0 : wr.cell? ⟨w.heap.size + 1, 0, none⟩ = some (.slice As n c) := hB.out.b1.cell 0
 have f1 : wr.cell? ⟨w.heap.size + 1, 1, none⟩ = some (.slice Al nl cl) := hB.out.b1.cell 1
 by_cases hlt : i < nl
 ·obtain ⟨b, off, d, p, q, hA, hbb, hx, c0, c1, c2⟩ := HM.out.hl.lock hlt
  subst hA
  have HX := iD hx
  obtain ⟨hd0, hd1, -⟩ := sN ((y8 HLE.out).2.1 _ (List.mem_of_getElem? hx))
  simp only at hd0 hd1
  obtain ⟨d, rfl⟩ := Int.eq_ofNat_of_zero_le hd0
  have hdn : d < n := by have := (yD HSE.out).2.1; rw [HL3.out] at this; omega
  obtain ⟨bs, os, sv, hAs, hbs, hsv, hcs⟩ := HM.out.hs.at1 hdn
  subst hAs
  have HSV := iD (q9 hsv)
  clear hx hsv hd0 hd1
  by_cases hp : sv = p
  ·have q1 : (sv != p) = false := by simpa using hp
   have HN := iD (hLS.out.snoc HX.out (by simp only [Int.toNat_natCast]; rw [HSV.out, hp]))
   clear hp
   go_wp2_with fail
   go_quiet (fail)
   go_wp2_with fail
   refine Handed.intro (nl - (i + 1)) (by omega) (hJ1 _ _ _ (vL.back 7 ?_ (by kernel_rfl)))
   dsimp only [gt]
   exact ⟨i + 1, by go_num, by omega, rfl, HN, hB.out.drewN _⟩
  ·have q1 : (sv != p) = true := by simpa using hp
   have HR := iD (r8 HSE.out HLE.out (uk.not HX.out (by simp only [Int.toNat_natCast]; rw [HSV.out]; exact hp)))
   clear hp
   go_wp2_with fail
   go_quiet (fail)
   go_wp2_with fail
   go_ret
   exact ⟨zI HR.out.symm, (hB.out.drewN _).bl⟩
 ·obtain rfl : i = nl := by omega
  have hii : decide (i < i) = false := by simp
  have HLS : Hid (uk F.s F.ls) := by have := hLS.out; rwa [List.take_of_length_le (by rw [HL4.out]; exact Nat.le_refl _)] at this
  clear hLS HM
  go_wp2_with fail
  clear f0 f1
  refine yO [(3, 0), (0, 1), (2, 0), (0, 2), (37, 0), (41, 1)] 8 (nt) (iF w #[.slice An nn cn, .slice Ad nd cd] #[.slice As n c, .slice Al i cl, .slice At nt ct] nd F.st nt) (by dsimp only [gt]; exact ⟨0, rfl, Nat.zero_le _, rfl, fun _ hk => by omega, hB⟩) (by kernel_rfl) ?_
  intro u2 p8 gk wq a hrel ha J2 K2 hJ2 hK2
  dsimp only [zi, v1, Nat.reduceAdd] at ha
  subst ha
  clear hB
  obtain ⟨j, rfl, hj, rfl, hSt, hB⟩ := hrel
  have HM := iD (HH.out.later hB.out.bl)
  have f2 : wq.cell? ⟨w.heap.size + 1, 2, none⟩ = some (.slice At nt ct) := hB.out.b1.cell 2
  by_cases hlt : j < nt
  ·obtain ⟨bt, ot, tv, hAt, hbt, htv, hct⟩ := HM.out.ht.at1 hlt
   subst hAt
   have k1 : wq.cell? ⟨w.heap.size, 1, none⟩ = some (.slice Ad nd cd) := hB.out.b0.cell 1
   have HTV := iD htv
   have HJL : Hid (j < F.st.length) := by unfold Hid; rw [HL5.out]; exact hlt
   by_cases h0 : tv < 0
   ·have q0 : decide (tv < 0) = true := by simpa using h0
    have HR := iD (vF HSE.out HLE.out HLS.out (un HJL.out (by rw [HL2.out]; unfold vx; rw [HTV.out]; simp [h0])))
    clear h0 htv
    go_wp2_with fail
    go_quiet (fail)
    go_wp2_with fail
    go_ret
    exact ⟨zI HR.out.symm, (hB.out.drewN _).bl⟩
   ·have q0 : decide (tv < 0) = false := by simpa using h0
    by_cases h1 : (nd : Int) ≤ tv
    ·have q1 : decide ((nd : Int) ≤ tv) = true := by simpa using h1
     have HR := iD (vF HSE.out HLE.out HLS.out (un HJL.out (by rw [HL2.out]; unfold vx; rw [HTV.out]; simp [h1])))
     clear h0 h1 htv
     go_wp2_with fail
     go_quiet (fail)
     go_wp2_with fail
     go_ret
     exact ⟨zI HR.out.symm, (hB.out.drewN _).bl⟩
    ·have q1 : decide ((nd : Int) ≤ tv) = false := by simpa using h1
     by_cases hj0 : j = 0
     ·have q2 : decide (0 < (j : Int)) = false := by simp; omega
      have q2n : decide (0 < j) = false := by simp; omega
      have HN := iD (te hSt.out (by unfold vx; rw [HTV.out]; simp [h0, h1, hj0]))
      clear h0 h1 hj0 htv
      go_wp2_with fail
      go_quiet (fail)
      go_wp2_with fail
      refine Handed.intro (nt - (j + 1)) (by omega) (hJ2 _ _ _ (vL.back 8 ?_ (by kernel_rfl)))
      dsimp only [gt]
      exact ⟨j + 1, by go_num, by omega, rfl, HN, hB.out.drewN _⟩
     ·obtain ⟨m, hm⟩ : ∃ m, m = j - 1 := ⟨_, rfl⟩
      have hmt : m < nt := by omega
      have e1 : (j : Int) - 1 = (m : Int) := by omega
      have q2 : decide (0 < (j : Int)) = true := by simp; omega
      have q2n : decide (0 < j) = true := by simp; omega
      obtain ⟨bt2, ot2, pv, hAt, -, hpv, hcp⟩ := HM.out.ht.at1 hmt
      injection hAt with hAt
      injection hAt with hA1 hA2
      subst hA1 hA2
      have HPV : Hid (F.st.getD (j - 1) 0 = pv) := by unfold Hid; rw [← hm]; exact q9 hpv
      by_cases h2 : tv ≤ pv
      ·have q3 : decide (tv ≤ pv) = true := by simpa using h2
       have HR := iD (vF HSE.out HLE.out HLS.out (un HJL.out (by rw [HL2.out]; unfold vx; rw [HTV.out]; simp only; rw [HPV.out, q2n, q3]; simp)))
       clear h0 h1 h2 hj0 htv hpv hm
       go_wp2_with fail
       go_quiet (fail)
       go_wp2_with fail
       go_ret
       exact ⟨zI HR.out.symm, (hB.out.drewN _).bl⟩
      ·have q3 : decide (tv ≤ pv) = false := by simpa using h2
       have HN := iD (te hSt.out (by unfold vx; rw [HTV.out]; simp only; rw [HPV.out, q0, q1, q3]; simp))
       clear h0 h1 h2 hj0 htv hpv hm
       go_wp2_with fail
       go_quiet (fail)
       go_wp2_with fail
       refine Handed.intro (nt - (j + 1)) (by omega) (hJ2 _ _ _ (vL.back 8 ?_ (by kernel_rfl)))
       dsimp only [gt]
       exact ⟨j + 1, by go_num, by omega, rfl, HN, hB.out.drewN _⟩
  ·obtain rfl : j = nt := by omega
   have hjj : decide (j < j) = false := by simp
   have HR := iD (wJ HSE.out HLE.out HLS.out (fun j hj => by rw [HL2.out]; exact hSt.out j (by rw [HL5.out] at hj; exact hj)))
   go_wp2_with fail
   go_ret
   exact ⟨zI HR.out.symm, hB.out.bl⟩
end
section
open Go.RowKit
noncomputable def yn (ns : List Nd) (ds : List Dv) (F : Fd) (ls : List Lk) (z : List Int) : Int := if zk ns ds F ≠ 0 then zk ns ds F else zv ns ds ls z
def vB (cl : List Int) (v : Int) : Bool := !(bits BinOp.and IntKind.i64 (cl.getD v.toNat 0) 1 == 0)
noncomputable def vV (ns : List Nd) (ds : List Dv) (F : Fd) (ls : List Lk) (z cl : List Int) (ea : Bool) : Bool := !(z.any (vB cl) || ls.any fun k => !xu F.ls k) && (!ea || vU ns ds ls z)
def rD (w : World) (nn : Nat) (ns : List Nd) (ds : List Dv) (F : Fd) (ls : List Lk) (z : List Int) (ea : Bool) (e : Ending) (w' : World) : Prop :=
 (yn ns ds F ls z ≠ 0 ∧ e = .returned (.tuple #[.bool false, .int .i64 (yn ns ds F ls z)]) ∨ yn ns ds F ls z = 0 ∧ ∃ cl, Hid (uJ nn ds F.s cl) ∧ e = .returned (.tuple #[.bool (vV ns ds F ls z cl ea), .int .i64 0])) ∧ Hid (Below w.heap.size w w')
theorem mO (An Ad As Al At Am Az : Option Addr) (nn cn nd cd n c nl cl nt ct nm cm nz cz : Nat) (ns : List Nd) (ds : List Dv) (F : Fd) (ls : List Lk) (z : List Int) (ea : Bool) (w : World) (h : FdM w An Ad As Al At nn cn nd cd n c nl cl nt ct ns ds F) (hm : Sl w w.heap.size 3 Am nm cm (ls.flatMap Lk.cells)) (hz : Sl w w.heap.size 1 Az nz cz (zK z)) (hnz : nz ≤ 10000) :
 Calls Tryz.prog 17 #[.agg #[.slice An nn cn, .slice Ad nd cd], .agg #[.slice As n c, .slice Al nl cl, .slice At nt ct], .slice Am nm cm, .slice Az nz cz, .bool ea] w (rD w nn ns ds F ls z ea) := by
 obtain ⟨hl1, hl2, -, -, -⟩ := h.ln
 have HL1 := iD hl1; have HL2 := iD hl2
 have HF := iD h; have HM := iD hm; have HZ := iD hz
 have HB0 : Hid (Below w.heap.size w ((w.alloc (.cells #[.slice An nn cn, .slice Ad nd cd] 30)).alloc (.cells #[.slice As n c, .slice Al nl cl, .slice At nt ct] 35))) := ((Below.refl _ _).alloc lR _).alloc (by simp) _
 have HK0 := iD ((Blk.new w 30 #[.slice An nn cn, .slice Ad nd cd]).alloc (.cells #[.slice As n c, .slice Al nl cl, .slice At nt ct] 35))
 have HG0 : Hid (Blk ((w.alloc (.cells #[.slice An nn cn, .slice Ad nd cd] 30)).alloc (.cells #[.slice As n c, .slice Al nl cl, .slice At nt ct] 35)) (w.heap.size + 1) 35 #[.slice As n c, .slice Al nl cl, .slice At nt ct]) := by
  have := Blk.new (w.alloc (.cells #[.slice An nn cn, .slice Ad nd cd] 30)) 35 #[.slice As n c, .slice Al nl cl, .slice At nt ct]
  unfold Hid; simpa using this
 clear h hm hz hl1 hl2
 go_enter Tryz.func17, Tryz.ntmps17
 go_wp2_with fail
 generalize World.alloc _ _ = W at *
 refine (vG An Ad As Al At nn cn nd cd n c nl cl nt ct ns ds F W (HF.out.later HB0.out)).mono ?_
 rintro e w1 ⟨rfl, hb1⟩
 have HB1 := iD (HB0.out.trans (hb1.mono HB0.out.size)); have HK1 := iD (HK0.out.below hb1 HK0.out.lt); have HG1 := iD (HG0.out.below hb1 HG0.out.lt)
 clear hb1 HB0 HK0 HG0
 by_cases he : zk ns ds F = 0; rotate_left
 ·have q : (zk ns ds F != 0) = true := by simpa using he
  have HE : Hid (yn ns ds F ls z = zk ns ds F) := by unfold Hid yn; rw [if_pos he]
  have HNZ := iD he
  clear he
  go_wp2_with fail
  go_ret2
  exact ⟨.inl ⟨by rw [HE.out]; exact HNZ.out, by rw [HE.out]; rfl⟩, HB1.out⟩
 have HE1 : Hid (yn ns ds F ls z = zv ns ds ls z) := by unfold Hid yn; rw [if_neg (by omega)]
 have HFZ := iD he
 rw [he]
 clear he
 have k0 : w1.cell? ⟨w.heap.size, 0, none⟩ = some (.slice An nn cn) := HK1.out.cell 0
 have k1 : w1.cell? ⟨w.heap.size, 1, none⟩ = some (.slice Ad nd cd) := HK1.out.cell 1
 go_wp2_with fail
 clear k0 k1
 have HF1 := iD (HF.out.later HB1.out)
 have hz1 := HB1.out.size
 refine (vC An Ad Am nn cn nd cd nm cm w.heap.size w.heap.size w.heap.size ns ds ls w1 HF1.out.la (HF.out.hn.below HB1.out lR) (HF.out.hd.below HB1.out lR) (HM.out.below HB1.out lR) hz1 hz1 hz1 HF.out.sn HF.out.sd).mono ?_
 rintro e w2 ⟨rfl, hb2⟩
 have HB2 := iD (HB1.out.trans (hb2.mono HB1.out.size)); have HK2 := iD (HK1.out.below hb2 HK1.out.lt); have HG2 := iD (HG1.out.below hb2 HG1.out.lt)
 clear hb2 HB1 HK1 HG1 HF1 hz1
 by_cases he : zL ns ds ls = 0; rotate_left
 ·have q : (zL ns ds ls != 0) = true := by simpa using he
  have HE : Hid (yn ns ds F ls z = zL ns ds ls) := by unfold Hid; rw [HE1.out]; unfold zv; rw [if_pos he]
  have HNZ := iD he
  clear he
  go_wp2_with fail
  go_ret2
  exact ⟨.inl ⟨by rw [HE.out]; exact HNZ.out, by rw [HE.out]; rfl⟩, HB2.out⟩
 have HE2 : Hid (zv ns ds ls z = zd ns ds z) := by unfold Hid zv; rw [if_neg (by omega)]
 rw [he]
 clear he
 have k0 : w2.cell? ⟨w.heap.size, 0, none⟩ = some (.slice An nn cn) := HK2.out.cell 0
 have k1 : w2.cell? ⟨w.heap.size, 1, none⟩ = some (.slice Ad nd cd) := HK2.out.cell 1
 go_wp2_with fail
 clear k0 k1
 have HF2 := iD (HF.out.later HB2.out)
 have hz2 := HB2.out.size
 refine (rF An Ad Az nn cn nd cd nz cz ns ds z w2 HF2.out.la HF2.out.hn HF2.out.hd ((HZ.out.below HB2.out lR).more hz2) HF.out.sn HF.out.sd).mono ?_
 rintro e w3 ⟨rfl, hb3⟩
 have HB3 := iD (HB2.out.trans (hb3.mono HB2.out.size)); have HK3 := iD (HK2.out.below hb3 HK2.out.lt); have HG3 := iD (HG2.out.below hb3 HG2.out.lt)
 clear hb3 HB2 HK2 HG2 HF2 hz2
 by_cases he : zd ns ds z = 0; rotate_left
 ·have q : (zd ns ds z != 0) = true := by simpa using he
  have HE : Hid (yn ns ds F ls z = zd ns ds z) := by unfold Hid; rw [HE1.out, HE2.out]
  have HNZ := iD he
  clear he
  go_wp2_with fail
  go_ret2
  exact ⟨.inl ⟨by rw [HE.out]; exact HNZ.out, by rw [HE.out]; rfl⟩, HB3.out⟩
 have HS0 : Hid (zv ns ds ls z = 0) := by unfold Hid; rw [HE2.out]; exact he
 have HE : Hid (yn ns ds F ls z = 0) := by unfold Hid; rw [HE1.out]; exact HS0.out
 obtain ⟨hck, hzp, hzr⟩ := y5 he
 have HOK := iD (vu.of hck)
 have hndl := HOK.out.dl
 have hnd : nd ≤ 1000 := by have := HL2.out; omega
 have HZI : Hid (∀ v ∈ z, 0 ≤ v ∧ v < nn) := fun v hv => by have := vP hzr v hv; rw [HL1.out] at this; omega
 rw [he]
 clear he hck hzp hzr hndl HE1 HE2
 have k0 : w3.cell? ⟨w.heap.size, 0, none⟩ = some (.slice An nn cn) := HK3.out.cell 0
 have k1 : w3.cell? ⟨w.heap.size, 1, none⟩ = some (.slice Ad nd cd) := HK3.out.cell 1
 have k2 : w3.cell? ⟨w.heap.size + 1, 0, none⟩ = some (.slice As n c) := HG3.out.cell 0
 go_wp2_with fail
 clear k0 k1 k2
 have HF3 := iD (HF.out.later HB3.out)
 refine (qc An Ad As nn cn nd cd n c ns ds F.s w3 HF3.out.la HF3.out.hn HF3.out.hd HF3.out.hs HF.out.sn HF.out.sd).mono ?_
 rintro e w4 ⟨hb4, hcase⟩
 rcases hcase with ⟨he, _⟩ | ⟨_, Ac, co, rfl, hO, hC⟩
 ·exact absurd (yo HFZ.out).1 he
 have HC := iD hC.out
 have HB5 : Hid (Below w.heap.size w (w4.alloc (.cells #[.slice Ac nn nn] 22))) := (HB3.out.trans (hb4.out.mono HB3.out.size)).alloc (Nat.le_trans HB3.out.size hb4.out.size) _
 have HK5 := iD ((HK3.out.below hb4.out HK3.out.lt).alloc (.cells #[.slice Ac nn nn] 22))
 have HG5 := iD ((HG3.out.below hb4.out HG3.out.lt).alloc (.cells #[.slice Ac nn nn] 22))
 have HQ5 := iD (Blk.new w4 22 #[.slice Ac nn nn])
 have HO5 : Hid (Sl (w4.alloc (.cells #[.slice Ac nn nn] 22)) w4.heap.size 1 Ac nn nn (zK co)) := hO.out.sl.alloc lR _
 have hzq : w4.heap.size < (w4.alloc (.cells #[.slice Ac nn nn] 22)).heap.size := by simp
 clear hC hO hb4 HB3 HK3 HG3 HF3
 go_upto_region 11 with (fail)
 generalize World.alloc w4 _ = W5 at *
 have hz5 := HB5.out.size
 go_wp2_with fail
 refine (sV (fun v => 0 ≤ v ∧ v < nn) 53 #[.pointer (some ⟨w4.heap.size, 0, none⟩)] (vB co) (enters_of Tryz.func53 (by kernel_rfl) rfl) Az nz cz w.heap.size z W5 (HZ.out.below HB5.out lR) HZI.out (fun W v hv hb => nj w4.heap.size nn Ac w4.heap.size co v W ((HQ5.out.below hb HQ5.out.lt).cell 0) (HO5.out.below hb (by omega)) hv)).mono ?_
 rintro e w6 ⟨rfl, q, rfl⟩
 have HB6 : Hid (Below w.heap.size w (W5.drewN q)) := below_drewN' HB5.out q
 have HK6 : Hid (Blk (W5.drewN q) w.heap.size 30 #[.slice An nn cn, .slice Ad nd cd]) := HK5.out
 have HG6 : Hid (Blk (W5.drewN q) (w.heap.size + 1) 35 #[.slice As n c, .slice Al nl cl, .slice At nt ct]) := HG5.out
 clear HB5 HK5 HG5 HQ5 HO5 hzq hz5
 generalize W5.drewN q = W6 at *
 have hz6 := HB6.out.size
 obtain ⟨lv, hlv⟩ : ∃ lv, lv = z.any (vB co) := ⟨_, rfl⟩
 rw [← hlv]
 have HLV := iD hlv
 clear hlv
 rcases lv with _ | _; rotate_left
 ·have HR : Hid (vV ns ds F ls z co ea = false) := by unfold Hid vV; rw [← HLV.out]; rfl
  go_wp2_with fail
  go_ret2
  exact ⟨.inr ⟨HE.out, co, HC, by rw [HR.out]; rfl⟩, HB6.out⟩
 go_wp2_with fail
 refine (sU 55 #[.pointer (some ⟨w.heap.size + 1, 0, none⟩)] (fun k => !xu F.ls k) (enters_of Tryz.func55 (by kernel_rfl) rfl) Am nm cm w.heap.size ls W6 (HM.out.below HB6.out lR) hz6 (fun W d p q hb => (lq (w.heap.size + 1) Al nl cl w.heap.size F.ls d p q W ((HG6.out.below hb HG6.out.lt).cell 1) ((HF.out.hl.below HB6.out lR).below hb hz6) (by have := hb.size; omega)).mono fun _ _ h => ⟨h.1, hb.trans (h.2.mono hb.size)⟩)).mono ?_
 rintro e w7 ⟨rfl, hb7⟩
 have HB7 := iD (HB6.out.trans (hb7.mono hz6)); have HK7 := iD (HK6.out.below hb7 HK6.out.lt)
 clear hb7 HB6 HK6 HG6 hz6
 obtain ⟨av, hav⟩ : ∃ av, av = ls.any fun k => !xu F.ls k := ⟨_, rfl⟩
 rw [← hav]
 have HAV := iD hav
 clear hav
 rcases av with _ | _; rotate_left
 ·have HR : Hid (vV ns ds F ls z co ea = false) := by unfold Hid vV; rw [← HLV.out, ← HAV.out]; rfl
  go_wp2_with fail
  go_ret2
  exact ⟨.inr ⟨HE.out, co, HC, by rw [HR.out]; rfl⟩, HB7.out⟩
 rcases ea with _ | _
 ·have HR : Hid (vV ns ds F ls z co false = true) := by unfold Hid vV; rw [← HLV.out, ← HAV.out]; rfl
  go_wp2_with fail
  go_ret2
  exact ⟨.inr ⟨HE.out, co, HC, by rw [HR.out]; rfl⟩, HB7.out⟩
 ·have HR : Hid (vV ns ds F ls z co true = vU ns ds ls z) := by unfold Hid vV; rw [← HLV.out, ← HAV.out]; simp
  have HF7 := iD (HF.out.later HB7.out)
  have hz7 := HB7.out.size
  have HSD := lf An Ad Am Az nn cn nd cd nm cm nz cz ns ds ls z w7 HF7.out.la HF7.out.hn HF7.out.hd ((HM.out.below HB7.out lR).more hz7) ((HZ.out.below HB7.out lR).more hz7) HF.out.sn HF.out.sd hnz hnd
  unfold tA at HSD
  rw [HS0.out] at HSD
  have HSDH := iD HSD
  clear HSD
  have k0 : w7.cell? ⟨w.heap.size, 0, none⟩ = some (.slice An nn cn) := HK7.out.cell 0
  have k1 : w7.cell? ⟨w.heap.size, 1, none⟩ = some (.slice Ad nd cd) := HK7.out.cell 1
  go_wp2_with fail
  clear k0 k1
  refine HSDH.out.mono ?_
  rintro e w8 ⟨rfl, hb8⟩
  go_wp2_with fail
  go_ret2
  exact ⟨.inr ⟨HE.out, co, HC, by rw [HR.out]; simp⟩, HB7.out.trans (hb8.out.mono hz7)⟩
end
end Go.Proofs.YtepicjpdhpojnaaGreatDoor
