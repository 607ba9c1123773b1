import Derived.Test.YtlcaebfjdhgcfaaDoorZ06
import Derived.Test.YtlcaebfjdhgcfaaDoorZ03
import Derived.Test.YtlcaebfjdhgcfaaDoorZ00
import Derived.Deep.LoopGhost
import Derived.Deep.DeepCutAuto
/-
  The references of layer 6: walks of positions, State.
-/
namespace Go.Proofs.YtlcaebfjdhgcfaaDoor
open Go.RowKit
def posErr (ns : List Nd) (ds : List Dv) (s : List Int) (m : Int) : Int := if checkN ns ds ≠ 0 then checkN ns ds else if s.length ≠ ds.length then 9 else if ∀ p ∈ s, 1 ≤ p ∧ p ≤ m then 0 else 10
theorem posErr_two (ns : List Nd) (ds : List Dv) (s : List Int) : posErr ns ds s 2 = stateErr ns ds s := by
  unfold posErr stateErr
  have e : (∀ p ∈ s, 1 ≤ p ∧ p ≤ 2) ↔ (∀ p ∈ s, posB p = true) := by
    constructor <;> intro h p hp <;> have := h p hp <;> simp [posB] at * <;> omega
  split
  · rfl
  · split
    · rfl
    · by_cases h : ∀ p ∈ s, posB p = true
      · rw [if_pos h, if_pos (e.2 h)]
      · rw [if_neg h, if_neg (fun k => h (e.1 k))]
def RpR (w : World) (N : Array Value) (n : Nat) (s : List Int) (m : Int) (gk : Nat) (iv : Value) (wr : World) : Prop := ∃ i : Nat, iv = .int .i64 i ∧ i ≤ n ∧ gk = n - i ∧ Hid (RcSt w N wr) ∧ Hid (∀ p ∈ s.take i, 1 ≤ p ∧ p ≤ m)
set_option maxHeartbeats 2000000 in
theorem rpos_any (An Ad As : Option Addr) (nn cn nd cd n c Bn Bd Bs : Nat) (ns : List Nd) (ds : List Dv) (s : List Int) (m : Int) (w : World) (hn : Sl w Bn 3 An nn cn (ns.flatMap Nd.cells)) (hd : Sl w Bd 5 Ad nd cd (ds.flatMap Dv.cells)) (hs : Sl w Bs 1 As n c (intsV s)) (hBn : Bn ≤ w.heap.size) (hBd : Bd ≤ w.heap.size) (hBs : Bs ≤ w.heap.size)
    (hsn : ∀ x ∈ ns, x.name.size ≤ 9223372036854775807) (hsd : ∀ x ∈ ds, x.name.size ≤ 9223372036854775807) :
    Calls Tryd.prog 72 #[.agg #[.slice An nn cn, .slice Ad nd cd], .slice As n c, .int .i64 m] w fun e w' => e = .returned (.int .i64 (posErr ns ds s m)) ∧ Below w.heap.size w w' := by
  have HLS := Lib.hid (hs.len (fun _ => rfl) (by decide)); have HLD := Lib.hid (hd.len (fun _ => rfl) (by decide))
  obtain ⟨hnc, hcm⟩ := hs.le
  obtain ⟨hdc, hdm⟩ := hd.le
  have HE : Hid (posErr ns ds s m = if checkN ns ds ≠ 0 then checkN ns ds else if n ≠ nd then 9 else if ∀ p ∈ s, 1 ≤ p ∧ p ≤ m then 0 else 10) := by unfold Hid; rw [posErr, HLS.out, HLD.out]
  have HS := Lib.hid hs
  have HCK := Lib.hid (rcheck_any An Ad nn cn nd cd Bn Bd ns ds (w.alloc (.cells #[.slice An nn cn, .slice Ad nd cd] 30)) (hn.alloc hBn _) (hd.alloc hBd _) (by simp; omega) (by simp; omega) hsn hsd)
  clear hn hd hs hsn hsd
  generalize checkN ns ds = er at *
  have HR0 : Hid (RcSt w #[.slice An nn cn, .slice Ad nd cd] (w.alloc (.cells #[.slice An nn cn, .slice Ad nd cd] 30))) := ⟨Blk.new _ _ _, (Below.refl _ _).alloc (Nat.le_refl _) _⟩
  by_cases h0 : er = 0; rotate_left
  · have h0' : (er != 0) = true := by simpa using h0
    have HR : Hid (posErr ns ds s m = er) := by unfold Hid; rw [HE.out, if_pos h0]
    clear h0
    go_enter Tryd.func72, Tryd.ntmps72
    go_wp2_with fail
    refine HCK.out.mono ?_
    rintro e w1 ⟨rfl, hb1⟩
    have HR1 := Lib.hid (HR0.out.later hb1)
    go_wp2_with fail
    go_ret
    exact ⟨ret_int (by rw [HR.out]), HR1.out.bl⟩
  subst h0
  go_enter Tryd.func72, Tryd.ntmps72
  go_wp2_with fail
  refine HCK.out.mono ?_
  rintro e w1 ⟨rfl, hb1⟩
  have HR1 := Lib.hid (HR0.out.later hb1)
  clear hb1 HCK HR0
  have k1 : w1.cell? ⟨w.heap.size, 1, none⟩ = some (.slice Ad nd cd) := HR1.out.bx.cell 1
  by_cases hnd : n = nd; rotate_left
  · have q : decide (n = nd) = false := by simpa using hnd
    have q' : ((n : Int) != (nd : Int)) = true := by simp; omega
    have HR : Hid (posErr ns ds s m = 9) := by unfold Hid; rw [HE.out, if_neg (by simp), if_pos hnd]
    clear hnd
    go_wp2_with fail
    go_ret
    exact ⟨ret_int (by rw [HR.out]), HR1.out.bl⟩
  subst hnd
  go_wp2_with fail
  clear k1
  go_loopg [8] n (RpR w #[.slice An nn cn, .slice Ad n cd] n s m)
  case atStart => exact ⟨0, rfl, Nat.zero_le _, rfl, HR1, by simp [Hid]⟩
  case round =>
    clear HR1
    obtain ⟨i, rfl, hi, rfl, hst, hok⟩ := hrel
    by_cases hlt : i < n
    · obtain ⟨b, off, x, rfl, hb, hx, hc⟩ := (HS.out.below hst.out.bl hBs).at1 hlt
      have HX := Lib.hid hx; clear hx
      by_cases h1 : x < 1
      · have HR : Hid (posErr ns ds s m = 10) := by
          unfold Hid
          rw [HE.out, if_neg (by simp), if_neg (by simp), if_neg (fun h => by have := h x (List.mem_of_getElem? HX.out); omega)]
        go_wp2_with fail
        go_ret
        exact ⟨ret_int (by rw [HR.out]), hst.out.bl⟩
      · have q1 : decide (x < 1) = false := by simpa using h1
        by_cases h2 : m < x
        · have HR : Hid (posErr ns ds s m = 10) := by
            unfold Hid
            rw [HE.out, if_neg (by simp), if_neg (by simp), if_neg (fun h => by have := h x (List.mem_of_getElem? HX.out); omega)]
          go_wp2_with fail
          go_ret
          exact ⟨ret_int (by rw [HR.out]), hst.out.bl⟩
        · have q2 : decide (m < x) = false := by simpa using h2
          go_wp2_with fail
          go_roundg (n - (i + 1))
          case rel =>
            refine ⟨i + 1, by go_num, by omega, rfl, hst, fun p hp => ?_⟩
            rw [take_snoc HX.out] at hp
            rcases List.mem_append.1 hp with h | h
            · exact hok.out p h
            · rw [List.mem_singleton.1 h]; omega
          case measure => omega
    · obtain rfl : i = n := by omega
      have hjj : decide (i < i) = false := by simp
      have HR : Hid (posErr ns ds s m = 0) := by
        unfold Hid
        have := hok.out
        rw [List.take_of_length_le (by rw [HLS.out]; exact Nat.le_refl _)] at this
        rw [HE.out, if_neg (by simp), if_neg (by simp), if_pos this]
      go_wp2_with fail
      go_ret
      exact ⟨ret_int (by rw [HR.out]), hst.out.bl⟩
theorem rstate_any (An Ad As : Option Addr) (nn cn nd cd n c Bn Bd Bs : Nat) (ns : List Nd) (ds : List Dv) (s : List Int) (w : World) (hn : Sl w Bn 3 An nn cn (ns.flatMap Nd.cells)) (hd : Sl w Bd 5 Ad nd cd (ds.flatMap Dv.cells)) (hs : Sl w Bs 1 As n c (intsV s)) (hBn : Bn ≤ w.heap.size) (hBd : Bd ≤ w.heap.size) (hBs : Bs ≤ w.heap.size)
    (hsn : ∀ x ∈ ns, x.name.size ≤ 9223372036854775807) (hsd : ∀ x ∈ ds, x.name.size ≤ 9223372036854775807) :
    Calls Tryd.prog 53 #[.agg #[.slice An nn cn, .slice Ad nd cd], .slice As n c] w fun e w' => e = .returned (.int .i64 (stateErr ns ds s)) ∧ Below w.heap.size w w' := by
  have HC := Lib.hid (rpos_any An Ad As nn cn nd cd n c Bn Bd Bs ns ds s 2 (w.alloc (.cells #[.slice An nn cn, .slice Ad nd cd] 30)) (hn.alloc hBn _) (hd.alloc hBd _) (hs.alloc hBs _) (by simp; omega) (by simp; omega) (by simp; omega) hsn hsd)
  rw [posErr_two] at HC
  clear hn hd hs hsn hsd
  go_enter Tryd.func53, Tryd.ntmps53
  go_wp2_with fail
  refine HC.out.mono ?_
  rintro e w1 ⟨rfl, hb1⟩
  go_wp2_with fail
  go_ret
  exact ⟨rfl, ((Below.refl _ _).alloc (Nat.le_refl _) _).trans (hb1.mono (by simp))⟩
end Go.Proofs.YtlcaebfjdhgcfaaDoor
/-
  Loops and cuts in a great frame: the slots that are written are the values of one function, so that one 'obtain' opens the frame.
-/
namespace Go.Proofs.YtlcaebfjdhgcfaaDoor
open Go.RowKit
/-- The frame: runs (n, t) of n + 1 slots: t = 0: they stay; 1: they hold anything; j + 2: one slot, the j-th of the named values. -/
def relaxR (u v : Nat → Value) : List (Nat × Nat) → Nat → List Value → List Value
  | [], _, fr => fr
  | _ :: _, _, [] => []
  | (0, 0) :: rs, i, x :: fr => x :: relaxR u v rs (i + 1) fr
  | (n + 1, 0) :: rs, i, x :: fr => x :: relaxR u v ((n, 0) :: rs) (i + 1) fr
  | (0, 1) :: rs, i, _ :: fr => u i :: relaxR u v rs (i + 1) fr
  | (n + 1, 1) :: rs, i, _ :: fr => u i :: relaxR u v ((n, 1) :: rs) (i + 1) fr
  | (_, j + 2) :: rs, i, _ :: fr => v j :: relaxR u v rs (i + 1) fr
/-- The n-th slot. -/
def gt : List Value → Nat → Value
  | [], _ => undef
  | x :: _, 0 => x
  | _ :: xs, n + 1 => gt xs n
section
variable {P : Program} {Q : Exit → Act → World → Prop} {w : World} {c : Code} {fr fr' : List Value} {k n₀ : Nat}
def v1 (p : Value) : Nat → Value := fun _ => p
def LpI1 (rel : Nat → Value → World → Prop) (rs : List (Nat × Nat)) (fr : List Value) (k : Nat) (a : Act) (w : World) : Prop := ∃ u p, rel k p w ∧ a = ⟨(relaxR u (v1 p) rs 0 fr).toArray, []⟩
theorem wp_loop_u1 (rs : List (Nat × Nat)) (s1 : Nat) (n₀ : Nat) (rel : Nat → Value → World → Prop) (h₀ : rel n₀ (gt fr s1) w) (hv : relaxR (gt fr) (v1 (gt fr s1)) rs 0 fr = fr)
    (round : ∀ u p n w a, rel n p w → a = ⟨(relaxR u (v1 p) rs 0 fr).toArray, []⟩ → ∀ (J : Nat → Act → World → Prop) (K : Act → World → Prop), (∀ k a' w', LpI1 rel rs fr k a' w' → J k a' w') → (∀ a' w', Handed J n a' w' → K a' w') → c.wp P (Exit.then K Q) a w) : (Code.loop c).wp P Q ⟨fr.toArray, []⟩ w :=
  wp_loop_ghost_k (LpI1 rel rs fr) n₀ ⟨_, _, h₀, by rw [hv]⟩ fun n a w ⟨u, p, h, ha⟩ J K hJ hK => round u p n w a h ha J K hJ hK
theorem LpI1.back {rel : Nat → Value → World → Prop} {rs : List (Nat × Nat)} (s1 : Nat) (h : rel k (gt fr' s1) w) (hv : relaxR (gt fr') (v1 (gt fr' s1)) rs 0 fr = fr') : LpI1 rel rs fr k ⟨fr'.toArray, []⟩ w := ⟨_, _, h, by rw [hv]⟩
def v2 (p q : Value) : Nat → Value
  | 0 => p
  | _ => q
def LpI2 (rel : Nat → Value → Value → World → Prop) (rs : List (Nat × Nat)) (fr : List Value) (k : Nat) (a : Act) (w : World) : Prop := ∃ u p q, rel k p q w ∧ a = ⟨(relaxR u (v2 p q) rs 0 fr).toArray, []⟩
theorem wp_loop_u2 (rs : List (Nat × Nat)) (s1 s2 : Nat) (n₀ : Nat) (rel : Nat → Value → Value → World → Prop) (h₀ : rel n₀ (gt fr s1) (gt fr s2) w) (hv : relaxR (gt fr) (v2 (gt fr s1) (gt fr s2)) rs 0 fr = fr)
    (round : ∀ u p q n w a, rel n p q w → a = ⟨(relaxR u (v2 p q) rs 0 fr).toArray, []⟩ → ∀ (J : Nat → Act → World → Prop) (K : Act → World → Prop), (∀ k a' w', LpI2 rel rs fr k a' w' → J k a' w') → (∀ a' w', Handed J n a' w' → K a' w') → c.wp P (Exit.then K Q) a w) : (Code.loop c).wp P Q ⟨fr.toArray, []⟩ w :=
  wp_loop_ghost_k (LpI2 rel rs fr) n₀ ⟨_, _, _, h₀, by rw [hv]⟩ fun n a w ⟨u, p, q, h, ha⟩ J K hJ hK => round u p q n w a h ha J K hJ hK
theorem LpI2.back {rel : Nat → Value → Value → World → Prop} {rs : List (Nat × Nat)} (s1 s2 : Nat) (h : rel k (gt fr' s1) (gt fr' s2) w) (hv : relaxR (gt fr') (v2 (gt fr' s1) (gt fr' s2)) rs 0 fr = fr') : LpI2 rel rs fr k ⟨fr'.toArray, []⟩ w := ⟨_, _, _, h, by rw [hv]⟩
def v3 (p q r : Value) : Nat → Value
  | 0 => p
  | 1 => q
  | _ => r
def LpI3 (rel : Nat → Value → Value → Value → World → Prop) (rs : List (Nat × Nat)) (fr : List Value) (k : Nat) (a : Act) (w : World) : Prop := ∃ u p q r, rel k p q r w ∧ a = ⟨(relaxR u (v3 p q r) rs 0 fr).toArray, []⟩
theorem wp_loop_u3 (rs : List (Nat × Nat)) (s1 s2 s3 : Nat) (n₀ : Nat) (rel : Nat → Value → Value → Value → World → Prop) (h₀ : rel n₀ (gt fr s1) (gt fr s2) (gt fr s3) w) (hv : relaxR (gt fr) (v3 (gt fr s1) (gt fr s2) (gt fr s3)) rs 0 fr = fr)
    (round : ∀ u p q r n w a, rel n p q r w → a = ⟨(relaxR u (v3 p q r) rs 0 fr).toArray, []⟩ → ∀ (J : Nat → Act → World → Prop) (K : Act → World → Prop), (∀ k a' w', LpI3 rel rs fr k a' w' → J k a' w') → (∀ a' w', Handed J n a' w' → K a' w') → c.wp P (Exit.then K Q) a w) : (Code.loop c).wp P Q ⟨fr.toArray, []⟩ w :=
  wp_loop_ghost_k (LpI3 rel rs fr) n₀ ⟨_, _, _, _, h₀, by rw [hv]⟩ fun n a w ⟨u, p, q, r, h, ha⟩ J K hJ hK => round u p q r n w a h ha J K hJ hK
theorem LpI3.back {rel : Nat → Value → Value → Value → World → Prop} {rs : List (Nat × Nat)} (s1 s2 s3 : Nat) (h : rel k (gt fr' s1) (gt fr' s2) (gt fr' s3) w) (hv : relaxR (gt fr') (v3 (gt fr' s1) (gt fr' s2) (gt fr' s3)) rs 0 fr = fr') : LpI3 rel rs fr k ⟨fr'.toArray, []⟩ w := ⟨_, _, _, _, h, by rw [hv]⟩
def v4 (p q r t : Value) : Nat → Value
  | 0 => p
  | 1 => q
  | 2 => r
  | _ => t
def LpI4 (rel : Nat → Value → Value → Value → Value → World → Prop) (rs : List (Nat × Nat)) (fr : List Value) (k : Nat) (a : Act) (w : World) : Prop := ∃ u p q r t, rel k p q r t w ∧ a = ⟨(relaxR u (v4 p q r t) rs 0 fr).toArray, []⟩
theorem wp_loop_u4 (rs : List (Nat × Nat)) (s1 s2 s3 s4 : Nat) (n₀ : Nat) (rel : Nat → Value → Value → Value → Value → World → Prop) (h₀ : rel n₀ (gt fr s1) (gt fr s2) (gt fr s3) (gt fr s4) w) (hv : relaxR (gt fr) (v4 (gt fr s1) (gt fr s2) (gt fr s3) (gt fr s4)) rs 0 fr = fr)
    (round : ∀ u p q r t n w a, rel n p q r t w → a = ⟨(relaxR u (v4 p q r t) rs 0 fr).toArray, []⟩ → ∀ (J : Nat → Act → World → Prop) (K : Act → World → Prop), (∀ k a' w', LpI4 rel rs fr k a' w' → J k a' w') → (∀ a' w', Handed J n a' w' → K a' w') → c.wp P (Exit.then K Q) a w) : (Code.loop c).wp P Q ⟨fr.toArray, []⟩ w :=
  wp_loop_ghost_k (LpI4 rel rs fr) n₀ ⟨_, _, _, _, _, h₀, by rw [hv]⟩ fun n a w ⟨u, p, q, r, t, h, ha⟩ J K hJ hK => round u p q r t n w a h ha J K hJ hK
theorem LpI4.back {rel : Nat → Value → Value → Value → Value → World → Prop} {rs : List (Nat × Nat)} (s1 s2 s3 s4 : Nat) (h : rel k (gt fr' s1) (gt fr' s2) (gt fr' s3) (gt fr' s4) w) (hv : relaxR (gt fr') (v4 (gt fr' s1) (gt fr' s2) (gt fr' s3) (gt fr' s4)) rs 0 fr = fr') : LpI4 rel rs fr k ⟨fr'.toArray, []⟩ w := ⟨_, _, _, _, _, h, by rw [hv]⟩
def CtI1 (R : Value → World → Prop) (rs : List (Nat × Nat)) (fr : List Value) (a : Act) (w : World) : Prop := ∃ u p, R p w ∧ a = ⟨(relaxR u (v1 p) rs 0 fr).toArray, []⟩
theorem wp_cut_u1 {s : Code} {K : Act → World → Prop} {Q' : Exit → Act → World → Prop} (rs : List (Nat × Nat)) (R : Value → World → Prop)
    (rest : ∀ u p w a, R p w → a = ⟨(relaxR u (v1 p) rs 0 fr).toArray, []⟩ → K a w)
    (first : ∀ (J K' : Act → World → Prop), (∀ a' w', CtI1 R rs fr a' w' → J a' w') → (∀ a' w', Met J a' w' → K' a' w') → s.wp P (Exit.then K' Q') ⟨fr.toArray, []⟩ w) : s.wp P (Exit.then K Q') ⟨fr.toArray, []⟩ w :=
  wp_cut (CtI1 R rs fr) (fun a w ⟨u, p, h, ha⟩ => rest u p w a h ha) first
theorem CtI1.back {R : Value → World → Prop} {rs : List (Nat × Nat)} (s1 : Nat) (h : R (gt fr' s1) w) (hv : relaxR (gt fr') (v1 (gt fr' s1)) rs 0 fr = fr') : CtI1 R rs fr ⟨fr'.toArray, []⟩ w := ⟨_, _, h, by rw [hv]⟩
def CtI2 (R : Value → Value → World → Prop) (rs : List (Nat × Nat)) (fr : List Value) (a : Act) (w : World) : Prop := ∃ u p q, R p q w ∧ a = ⟨(relaxR u (v2 p q) rs 0 fr).toArray, []⟩
theorem wp_cut_u2 {s : Code} {K : Act → World → Prop} {Q' : Exit → Act → World → Prop} (rs : List (Nat × Nat)) (R : Value → Value → World → Prop)
    (rest : ∀ u p q w a, R p q w → a = ⟨(relaxR u (v2 p q) rs 0 fr).toArray, []⟩ → K a w)
    (first : ∀ (J K' : Act → World → Prop), (∀ a' w', CtI2 R rs fr a' w' → J a' w') → (∀ a' w', Met J a' w' → K' a' w') → s.wp P (Exit.then K' Q') ⟨fr.toArray, []⟩ w) : s.wp P (Exit.then K Q') ⟨fr.toArray, []⟩ w :=
  wp_cut (CtI2 R rs fr) (fun a w ⟨u, p, q, h, ha⟩ => rest u p q w a h ha) first
theorem CtI2.back {R : Value → Value → World → Prop} {rs : List (Nat × Nat)} (s1 s2 : Nat) (h : R (gt fr' s1) (gt fr' s2) w) (hv : relaxR (gt fr') (v2 (gt fr' s1) (gt fr' s2)) rs 0 fr = fr') : CtI2 R rs fr ⟨fr'.toArray, []⟩ w := ⟨_, _, _, h, by rw [hv]⟩
def CtI3 (R : Value → Value → Value → World → Prop) (rs : List (Nat × Nat)) (fr : List Value) (a : Act) (w : World) : Prop := ∃ u p q r, R p q r w ∧ a = ⟨(relaxR u (v3 p q r) rs 0 fr).toArray, []⟩
theorem wp_cut_u3 {s : Code} {K : Act → World → Prop} {Q' : Exit → Act → World → Prop} (rs : List (Nat × Nat)) (R : Value → Value → Value → World → Prop)
    (rest : ∀ u p q r w a, R p q r w → a = ⟨(relaxR u (v3 p q r) rs 0 fr).toArray, []⟩ → K a w)
    (first : ∀ (J K' : Act → World → Prop), (∀ a' w', CtI3 R rs fr a' w' → J a' w') → (∀ a' w', Met J a' w' → K' a' w') → s.wp P (Exit.then K' Q') ⟨fr.toArray, []⟩ w) : s.wp P (Exit.then K Q') ⟨fr.toArray, []⟩ w :=
  wp_cut (CtI3 R rs fr) (fun a w ⟨u, p, q, r, h, ha⟩ => rest u p q r w a h ha) first
theorem CtI3.back {R : Value → Value → Value → World → Prop} {rs : List (Nat × Nat)} (s1 s2 s3 : Nat) (h : R (gt fr' s1) (gt fr' s2) (gt fr' s3) w) (hv : relaxR (gt fr') (v3 (gt fr' s1) (gt fr' s2) (gt fr' s3)) rs 0 fr = fr') : CtI3 R rs fr ⟨fr'.toArray, []⟩ w := ⟨_, _, _, _, h, by rw [hv]⟩
def CtI4 (R : Value → Value → Value → Value → World → Prop) (rs : List (Nat × Nat)) (fr : List Value) (a : Act) (w : World) : Prop := ∃ u p q r t, R p q r t w ∧ a = ⟨(relaxR u (v4 p q r t) rs 0 fr).toArray, []⟩
theorem wp_cut_u4 {s : Code} {K : Act → World → Prop} {Q' : Exit → Act → World → Prop} (rs : List (Nat × Nat)) (R : Value → Value → Value → Value → World → Prop)
    (rest : ∀ u p q r t w a, R p q r t w → a = ⟨(relaxR u (v4 p q r t) rs 0 fr).toArray, []⟩ → K a w)
    (first : ∀ (J K' : Act → World → Prop), (∀ a' w', CtI4 R rs fr a' w' → J a' w') → (∀ a' w', Met J a' w' → K' a' w') → s.wp P (Exit.then K' Q') ⟨fr.toArray, []⟩ w) : s.wp P (Exit.then K Q') ⟨fr.toArray, []⟩ w :=
  wp_cut (CtI4 R rs fr) (fun a w ⟨u, p, q, r, t, h, ha⟩ => rest u p q r t w a h ha) first
theorem CtI4.back {R : Value → Value → Value → Value → World → Prop} {rs : List (Nat × Nat)} (s1 s2 s3 s4 : Nat) (h : R (gt fr' s1) (gt fr' s2) (gt fr' s3) (gt fr' s4) w) (hv : relaxR (gt fr') (v4 (gt fr' s1) (gt fr' s2) (gt fr' s3) (gt fr' s4)) rs 0 fr = fr') : CtI4 R rs fr ⟨fr'.toArray, []⟩ w := ⟨_, _, _, _, _, h, by rw [hv]⟩
end
end Go.Proofs.YtlcaebfjdhgcfaaDoor
