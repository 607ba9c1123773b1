import Derived.Test.YtiljpejjjgoeaaaDoorZ04
/-
  Layer 3: walk of across; layer 12: Clone, With.
-/
namespace Go.Proofs.YtiljpejjjgoeaaaDoor
open Go.RowKit
/-- The other node of a device that joins; -1. -/
def acrB (x : Dv) (v : Int) : Int := if joinsB x.kind = false then -1 else if x.a = v then x.b else if x.b = v then x.a else -1
set_option maxHeartbeats 1000000 in
theorem across_any (nm : ByteArray) (kind a b comp v : Int) (w : World) : Calls Tryd.prog 98 #[.agg #[.string nm, .int .i64 kind, .int .i64 a, .int .i64 b, .int .i64 comp], .int .i64 v] w fun e w' => e = .returned (.int .i64 (acrB ⟨nm, kind, a, b, comp⟩ v)) ∧ Below w.heap.size w w' := by
  have HE : Hid (acrB ⟨nm, kind, a, b, comp⟩ v = if joinsB kind = false then -1 else if a = v then b else if b = v then a else -1) := rfl
  have HJ2 := Lib.hid (joins_any kind)
  rcases hj : joinsB kind with _ | _
  · rw [hj] at HJ2
    have HJ := Lib.hid hj; clear hj
    go_enter Tryd.func98, Tryd.ntmps98
    go_wp2_with fail
    refine (HJ2.out _).mono ?_
    rintro e w1 ⟨rfl, rfl⟩
    go_wp2_with fail
    go_ret
    exact ⟨ret_int (by rw [HE.out, if_pos HJ.out]), (Below.refl _ _).alloc (Nat.le_refl _) _⟩
  · rw [hj] at HJ2
    have HJ := Lib.hid hj; clear hj
    by_cases h1 : a = v
    · subst h1
      have q : (a == a) = true := by simp
      go_enter Tryd.func98, Tryd.ntmps98
      go_wp2_with fail
      refine (HJ2.out _).mono ?_
      rintro e w1 ⟨rfl, rfl⟩
      go_wp2_with fail
      go_ret
      exact ⟨ret_int (by rw [HE.out, if_neg (by rw [HJ.out]; simp)]; simp), (Below.refl _ _).alloc (Nat.le_refl _) _⟩
    · have q : (a == v) = false := by simpa using h1
      by_cases h2 : b = v
      · subst h2
        have q2 : (b == b) = true := by simp
        go_enter Tryd.func98, Tryd.ntmps98
        go_wp2_with fail
        refine (HJ2.out _).mono ?_
        rintro e w1 ⟨rfl, rfl⟩
        go_wp2_with fail
        go_ret
        exact ⟨ret_int (by rw [HE.out, if_neg (by rw [HJ.out]; simp), if_neg h1]; simp), (Below.refl _ _).alloc (Nat.le_refl _) _⟩
      · have q2 : (b == v) = false := by simpa using h2
        go_enter Tryd.func98, Tryd.ntmps98
        go_wp2_with fail
        refine (HJ2.out _).mono ?_
        rintro e w1 ⟨rfl, rfl⟩
        go_wp2_with fail
        go_ret
        exact ⟨ret_int (by rw [HE.out, if_neg (by rw [HJ.out]; simp), if_neg h1, if_neg h2]), (Below.refl _ _).alloc (Nat.le_refl _) _⟩
/-- A fresh slice with the same integers. -/
def IntsPost (w : World) (l : List Int) (e : Ending) (w' : World) : Prop := ∃ (A : Option Addr) (c : Nat), e = .returned (.slice A l.length c) ∧ Hid (IntsO w' w.heap.size A l.length c l) ∧ Hid (Below w.heap.size w w')
theorem run_isnil (A : Option Addr) (n c : Nat) (w : World) : (binOp BinOp.eql 22 (.slice A n c) (.slice none 0 0)).run Tryd.prog w = .ok (.bool A.isNone) w := by
  cases A <;> kernel_rfl
set_option maxRecDepth 100000 in
set_option maxHeartbeats 1000000 in
theorem clone_any (A : Option Addr) (n c B : Nat) (l : List Int) (w : World) (hs : Sl w B 1 A n c (intsV l)) (hB : B ≤ w.heap.size) (hn : n ≤ 1000000) : Calls Tryd.prog 50 #[.slice A n c] w (IntsPost w l) := by
  have hl := hs.len (fun _ => rfl) (by decide)
  have HL := Lib.hid hl; clear hl
  cases A with
  | none =>
    have h0 : n = 0 := by have := hs.2.2.2.1 rfl; have := hs.le; omega
    subst h0
    have hl0 : l = [] := List.eq_nil_of_length_eq_zero HL.out
    subst hl0
    clear hs HL
    have hnil := run_isnil none 0 c w
    simp only [Option.isNone_none] at hnil
    go_enter Tryd.func50, Tryd.ntmps50
    go_wp2_with fail
    go_ret
    exact ⟨none, 0, rfl, World.ownsRow_nil _ _ _ _, Below.refl _ _⟩
  | some a =>
    have HS := Lib.hid hs
    have hH := hs.le
    clear hs
    have hnil := run_isnil (some a) n c w
    simp only [Option.isNone_some] at hnil
    go_enter Tryd.func50, Tryd.ntmps50
    have h1 : ∀ u ∈ intsV l, u.oneCell' = true := ints_one l
    have HS1 := Lib.hid (HS.out.alloc hB (.cells #[] 3))
    go_wp2_with (at_builtin; go_must (refine wpList_app rfl (.tmp 5) (.tmp 6) rfl el_int (base := w.heap.size) (n := 0) (xs := []) (by rfl) (own_new (xs := []) (Nat.le_refl _) (by decide) rfl) (by rfl) HS1.out h1 (by omega) (by omega) (by simp) ?_; intro A' cap' w2 hown2 hgr2 hat2; simp only [Nat.zero_add, List.nil_append] at hown2 hgr2; have HO := Lib.hid hown2; have HG := Lib.hid hgr2; clear hown2 hgr2 hat2))
    go_ret
    obtain rfl : l.length = n := HL.out
    exact ⟨A', cap', rfl, HO.out, ((Below.refl _ _).alloc (Nat.le_refl _) _).trans (below_of_grown HG.out (Nat.le_refl _) (by simp))⟩
end Go.Proofs.YtiljpejjjgoeaaaDoor
/-
  Layer 3, plain: which nodes a flood reaches; what holds while it works.
-/
namespace Go.Proofs.YtiljpejjjgoeaaaDoor
/-- v is reached from some nodes over devices that may be used, not going on from nodes that stop. -/
inductive Rch (ds : List Dv) (U : Nat → Bool) (S : Int → Bool) (src : List Int) : Int → Prop
  | base {v : Int} : v ∈ src → Rch ds U S src v
  | step {u : Int} {i : Nat} {x : Dv} : Rch ds U S src u → S u = false → ds[i]? = some x → U i = true → 0 ≤ acrB x u → Rch ds U S src (acrB x u)
def marked (out : List Bool) (v : Int) : Prop := 0 ≤ v ∧ out[v.toNat]? = some true
def EndsOk (nn : Nat) (ds : List Dv) : Prop := ∀ x ∈ ds, joinsB x.kind = true → (0 ≤ x.a ∧ x.a < nn) ∧ (0 ≤ x.b ∧ x.b < nn)
def countF (out : List Bool) : Nat := (out.filter (fun b => !b)).length
theorem acr_lt {nn : Nat} {ds : List Dv} (h : EndsOk nn ds) {i : Nat} {x : Dv} (hx : ds[i]? = some x) (v : Int) (h0 : 0 ≤ acrB x v) : acrB x v < nn := by
  have hm := h x (List.mem_of_getElem? hx)
  unfold acrB at h0 ⊢
  split at h0
  · omega
  · rename_i hj
    have := hm (by simpa using hj)
    rw [if_neg hj]
    split
    · omega
    · split
      · omega
      · rename_i h1 h2; rw [if_neg h1, if_neg h2] at h0; omega
theorem marked_set {out : List Bool} {k : Nat} (hk : k < out.length) (v : Int) : marked (out.set k true) v ↔ v = k ∨ marked out v := by
  unfold marked
  rw [List.getElem?_set]
  constructor
  · rintro ⟨h0, h1⟩
    split at h1
    · left; omega
    · exact .inr ⟨h0, h1⟩
  · rintro (rfl | ⟨h0, h1⟩)
    · exact ⟨by omega, by simp [hk]⟩
    · refine ⟨h0, ?_⟩
      split
      · simp
      · exact h1
theorem countF_set : ∀ {out : List Bool} {k : Nat}, out[k]? = some false → countF (out.set k true) + 1 = countF out
  | [], k, h => by simp at h
  | b :: out, 0, h => by simp at h; subst h; simp [countF]
  | b :: out, k + 1, h => by
    simp at h
    have := countF_set h
    unfold countF at *
    rw [List.set_cons_succ, List.filter_cons, List.filter_cons]
    split <;> simp_all
theorem marked_rep (n : Nat) (v : Int) : ¬ marked (List.replicate n false) v := by
  rintro ⟨_, h⟩
  rw [List.getElem?_replicate] at h
  split at h <;> simp at h

/-- At the head of the outer loop. -/
structure BInv (ds : List Dv) (U : Nat → Bool) (S : Int → Bool) (src : List Int) (out : List Bool) (wait : List Int) : Prop where
  sound : ∀ v, marked out v → Rch ds U S src v
  waits : ∀ v ∈ wait, marked out v
  srcs : ∀ v ∈ src, marked out v
  done : ∀ u, marked out u → u ∉ wait → S u = false → ∀ i x, ds[i]? = some x → U i = true → 0 ≤ acrB x u → marked out (acrB x u)
/-- At the head of the inner loop, at device j, for the node v. -/
structure IInv (ds : List Dv) (U : Nat → Bool) (S : Int → Bool) (src : List Int) (v : Int) (j : Nat) (out : List Bool) (wait : List Int) : Prop where
  sound : ∀ v, marked out v → Rch ds U S src v
  waits : ∀ v ∈ wait, marked out v
  srcs : ∀ v ∈ src, marked out v
  done : ∀ u, marked out u → u ∉ wait → S u = false → ∀ i x, ds[i]? = some x → U i = true → 0 ≤ acrB x u → marked out (acrB x u)
  head : wait.head? = some v
  here : ∀ i x, i < j → ds[i]? = some x → U i = true → 0 ≤ acrB x v → marked out (acrB x v)
section
variable {ds : List Dv} {U : Nat → Bool} {S : Int → Bool} {src wait : List Int} {out : List Bool} {v : Int} {j : Nat}
theorem BInv.start (h : ∀ v, marked out v ↔ v ∈ src) : BInv ds U S src out src :=
  ⟨fun v hv => .base ((h v).1 hv), fun v hv => (h v).2 hv, fun v hv => (h v).2 hv, fun u hu hn => absurd ((h u).1 hu) hn⟩
theorem BInv.enter (h : BInv ds U S src out wait) (hv : wait.head? = some v) : IInv ds U S src v 0 out wait :=
  ⟨h.sound, h.waits, h.srcs, h.done, hv, fun i x hi => absurd hi (by omega)⟩
theorem BInv.stop (h : BInv ds U S src out (v :: wait)) (hs : S v = true) : BInv ds U S src out wait :=
  ⟨h.sound, fun u hu => h.waits u (List.mem_cons_of_mem _ hu), h.srcs, fun u hu hn hsu i x hx hU h0 => by
    refine h.done u hu (fun hm => ?_) hsu i x hx hU h0
    rcases List.mem_cons.1 hm with rfl | hm
    · rw [hs] at hsu; cases hsu
    · exact hn hm⟩
theorem IInv.leave (h : IInv ds U S src v j out (v :: wait)) (hj : ds.length ≤ j) : BInv ds U S src out wait :=
  ⟨h.sound, fun u hu => h.waits u (List.mem_cons_of_mem _ hu), h.srcs, fun u hu hn hsu i x hx hU h0 => by
    by_cases huv : u = v
    · subst huv
      exact h.here i x (Nat.lt_of_lt_of_le (List.getElem?_eq_some_iff.1 hx).1 hj) hx hU h0
    · refine h.done u hu (fun hm => ?_) hsu i x hx hU h0
      rcases List.mem_cons.1 hm with e | hm
      · exact huv e
      · exact hn hm⟩
theorem IInv.pass (h : IInv ds U S src v j out wait) {x : Dv} (hx : ds[j]? = some x) (hp : U j = true → 0 ≤ acrB x v → marked out (acrB x v)) : IInv ds U S src v (j + 1) out wait :=
  ⟨h.sound, h.waits, h.srcs, h.done, h.head, fun i y hi hy hU h0 => by
    rcases Nat.lt_succ_iff_lt_or_eq.1 hi with hi | rfl
    · exact h.here i y hi hy hU h0
    · obtain rfl : y = x := Option.some.inj (hy.symm.trans hx)
      exact hp hU h0⟩
theorem IInv.push (h : IInv ds U S src v j out wait) {x : Dv} (hx : ds[j]? = some x) {k : Nat} (hk : acrB x v = k) (hkl : k < out.length) (hU : U j = true) (hS : S v = false) : IInv ds U S src v (j + 1) (out.set k true) (wait ++ [(k : Int)]) := by
  have hv : marked out v := h.waits v (List.mem_of_mem_head? h.head)
  have hm := fun u => marked_set (out := out) hkl u
  refine ⟨fun u hu => ?_, fun u hu => ?_, fun u hu => (hm u).2 (.inr (h.srcs u hu)), fun u hu hn hsu i y hy hUi h0 => ?_, ?_, fun i y hi hy hUi h0 => ?_⟩
  · rcases (hm u).1 hu with rfl | hu
    · rw [← hk]; exact .step (h.sound v hv) hS hx hU (by omega)
    · exact h.sound u hu
  · rcases List.mem_append.1 hu with hu | hu
    · exact (hm u).2 (.inr (h.waits u hu))
    · exact (hm u).2 (.inl (List.mem_singleton.1 hu))
  · rcases (hm u).1 hu with rfl | hu
    · exact absurd (List.mem_append_right _ (List.mem_singleton.2 rfl)) hn
    · exact (hm _).2 (.inr (h.done u hu (fun hw => hn (List.mem_append_left _ hw)) hsu i y hy hUi h0))
  · have := h.head
    cases wait with
    | nil => simp at this
    | cons a l => simpa using this
  · rcases Nat.lt_succ_iff_lt_or_eq.1 hi with hi | rfl
    · exact (hm _).2 (.inr (h.here i y hi hy hUi h0))
    · obtain rfl : y = x := Option.some.inj (hy.symm.trans hx)
      exact (hm _).2 (.inl hk)
theorem BInv.final (h : BInv ds U S src out []) : ∀ v, marked out v ↔ Rch ds U S src v := by
  intro v
  refine ⟨h.sound v, fun hr => ?_⟩
  induction hr with
  | base hv => exact h.srcs _ hv
  | step _ hs hx hU h0 ih => exact h.done _ ih (by simp) hs _ _ hx hU h0
end
end Go.Proofs.YtiljpejjjgoeaaaDoor
