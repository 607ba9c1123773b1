import Derived.Test.YtiljpejjjgoeaaaDoorZ34
import Derived.Shelf.Abstract
/-
  The library's IndexFunc and ContainsFunc at locks (as in LkW; for seats without the lockset).
-/
namespace Go.Proofs.YtiljpejjjgoeaaaDoor
open Go.RowKit
/-- A predicate on locks that a function value tells. -/
def PredL (g : Nat) (lb : Array Value) (p : Lk → Bool) (w : World) : Prop :=
  ∀ (W : World) (d q r : Int), Below w.heap.size w W → Calls Tryd.prog g (#[.agg #[.int .i64 d, .int .i64 q, .int .i64 r]] ++ lb) W fun e w' => e = .returned (.bool (p ⟨d, q, r⟩)) ∧ Below w.heap.size w w'
def IfR (w : World) (ls : List Lk) (p : Lk → Bool) (n gk : Nat) (_kv iv : Value) (wr : World) : Prop := ∃ i : Nat, iv = .int .i64 i ∧ i ≤ n ∧ gk = n - i ∧ Hid (∀ x ∈ ls.take i, p x = false) ∧ Hid (Below w.heap.size w wr)
set_option maxHeartbeats 2000000 in
theorem idxf_any (g : Nat) (lb : Array Value) (p : Lk → Bool) (eg : ∀ args w, (callFunc g args).run Tryd.prog w = .ok (.enter g args) w) (A : Option Addr) (n c B : Nat) (ls : List Lk) (w : World) (hs : Sl w B 3 A n c (ls.flatMap Lk.cells)) (hB : B ≤ w.heap.size) (hp : PredL g lb p w) :
    Calls Tryd.prog 51 #[.slice A n c, .func (.func g) #[] lb] w fun e w' => (∃ i : Int, e = .returned (.int .i64 i) ∧ Hid (decide (0 ≤ i) = ls.any p)) ∧ Below w.heap.size w w' := by
  have HLN := Lib.hid (hs.len (fun _ => rfl) (by decide)); have HS := Lib.hid hs
  have hle := hs.le
  have HP := Lib.hid hp
  clear hs hp
  go_enter Tryd.func51, Tryd.ntmps51
  go_wp2_with fail
  go_loopg [5, 8] n (IfR w ls p n)
  case atStart => exact ⟨0, rfl, Nat.zero_le _, rfl, (fun x hx => by simp at hx), Below.refl _ _⟩
  case round =>
    obtain ⟨i, rfl, hi, rfl, hno, hbl⟩ := hrel
    by_cases hlt : i < n
    · obtain ⟨b, off, d1, p1, q1, rfl, hb, hx, c0, c1, c2⟩ := (HS.out.below hbl.out hB).lock hlt
      have HX := Lib.hid hx
      have hcall := HP.out wr d1 p1 q1 hbl.out
      clear hx
      rcases hq : p ⟨d1, p1, q1⟩ with _ | _
      · rw [hq] at hcall
        have HN : Hid (∀ x ∈ ls.take (i + 1), p x = false) := fun x hx => by
          rw [take_snoc HX.out] at hx
          rcases List.mem_append.1 hx with h | h
          · exact hno.out x h
          · rw [List.mem_singleton.1 h]; exact hq
        clear hq
        go_wp2_with (go_at_fn g; refine hcall.mono ?_; rintro e w' ⟨rfl, hb'⟩)
        go_roundg (n - (i + 1))
        case rel => exact ⟨i + 1, by go_num, by omega, rfl, HN, hb'⟩
        case measure => omega
      · rw [hq] at hcall
        have HR : Hid (decide (0 ≤ (i : Int)) = ls.any p) := by
          unfold Hid
          rw [decide_eq_true (by omega)]
          symm
          rw [List.any_eq_true]
          exact ⟨_, List.mem_of_getElem? HX.out, hq⟩
        clear hq
        go_wp2_with (go_at_fn g; refine hcall.mono ?_; rintro e w' ⟨rfl, hb'⟩)
        go_ret
        exact ⟨⟨_, rfl, HR⟩, hb'⟩
    · obtain rfl : i = n := by omega
      have hii : decide (i < i) = false := by simp
      have HR : Hid (decide (0 ≤ (-1 : Int)) = ls.any p) := by
        have := hno.out
        rw [List.take_of_length_le (by rw [HLN.out]; exact Nat.le_refl _)] at this
        unfold Hid
        rw [decide_eq_false (by omega)]
        symm
        rw [List.any_eq_false]
        intro x hx
        rw [this x hx]; simp
      go_wp2_with fail
      go_ret
      exact ⟨⟨_, rfl, HR⟩, hbl.out⟩
set_option maxHeartbeats 2000000 in
theorem contf_any (g : Nat) (lb : Array Value) (p : Lk → Bool) (eg : ∀ args w, (callFunc g args).run Tryd.prog w = .ok (.enter g args) w) (A : Option Addr) (n c B : Nat) (ls : List Lk) (w : World) (hs : Sl w B 3 A n c (ls.flatMap Lk.cells)) (hB : B ≤ w.heap.size) (hp : PredL g lb p w) :
    Calls Tryd.prog 32 #[.slice A n c, .func (.func g) #[] lb] w fun e w' => e = .returned (.bool (ls.any p)) ∧ Below w.heap.size w w' := by
  have HI := Lib.hid (idxf_any g lb p eg A n c B ls w hs hB hp)
  clear hs hp
  go_enter Tryd.func32, Tryd.ntmps32
  go_wp2_with fail
  refine HI.out.mono ?_
  rintro e w1 ⟨⟨i, rfl, hi⟩, hb⟩
  go_wp2_with fail
  go_ret
  exact ⟨ret_bool hi.out, hb⟩
end Go.Proofs.YtiljpejjjgoeaaaDoor
