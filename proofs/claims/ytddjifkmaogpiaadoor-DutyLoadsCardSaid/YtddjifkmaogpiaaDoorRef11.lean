/-
  The references of layers 3 and 11: walks of Has, sum.
-/
import Derived.Test.YtddjifkmaogpiaaDoorLoadsP
import Derived.Test.YtddjifkmaogpiaaDoorRef07C
namespace Go.Proofs.YtddjifkmaogpiaaDoor
open Go.RowKit
def HaR (w : World) (l : List Int) (x : Int) (n gk : Nat) (iv : Value) (wr : World) : Prop := ∃ i : Nat, iv = .int .i64 i ∧ i ≤ n ∧ gk = n - i ∧ wr = w ∧ Hid (∀ k, k < i → l[k]? ≠ some x)
set_option maxHeartbeats 2000000 in
theorem rhas_any (A : Option Addr) (n c : Nat) (l : List Int) (x : Int) (w : World) (hs : Sl w w.heap.size 1 A n c (intsV l)) :
    Calls Tryd.prog 33 #[.slice A n c, .int .i64 x] w fun e w' => e = .returned (.bool (decide (x ∈ l))) ∧ w = w' := by
  have hnm := hs.le
  have HS := Lib.hid hs
  have HLN := Lib.hid (hs.len (fun _ => rfl) (by decide))
  clear hs
  go_enter Tryd.func33, Tryd.ntmps33
  go_wp2_with fail
  go_loopg [5] n (HaR w l x n)
  case atStart => exact ⟨0, rfl, Nat.zero_le _, rfl, rfl, fun k hk => absurd hk (by omega)⟩
  case round =>
    obtain ⟨i, rfl, hi, rfl, rfl, hno⟩ := hrel
    by_cases hlt : i < n
    · obtain ⟨b, off, y, rfl, hb, hy, hc⟩ := HS.out.at1 hlt
      have HY := Lib.hid hy
      clear hy
      by_cases hxy : y = x
      · have q : (y == x) = true := by simpa using hxy
        have HR : Hid (decide (x ∈ l) = true) := by
          unfold Hid
          rw [decide_eq_true_eq, ← hxy]
          exact List.mem_of_getElem? HY.out
        clear hxy
        go_wp2_with fail
        go_ret
        exact ⟨ret_bool HR.out.symm, rfl⟩
      · have q : (y == x) = false := by simpa using hxy
        have HN : Hid (∀ k, k < i + 1 → l[k]? ≠ some x) := fun k hk e => by
          rcases Nat.lt_succ_iff_lt_or_eq.1 hk with h | rfl
          · exact hno.out k h e
          · rw [HY.out] at e; injection e with e; exact hxy e
        clear hxy
        go_wp2_with fail
        go_roundg (n - (i + 1))
        case rel => exact ⟨i + 1, by go_num, by omega, rfl, rfl, HN⟩
        case measure => omega
    · obtain rfl : i = n := by omega
      have hii : decide (i < i) = false := by simp
      have HR : Hid (decide (x ∈ l) = false) := by
        unfold Hid
        rw [decide_eq_false_iff_not]
        intro hm
        obtain ⟨k, hk⟩ := List.mem_iff_getElem?.1 hm
        exact hno.out k (by have := (List.getElem?_eq_some_iff.1 hk).1; rw [HLN.out] at this; exact this) hk
      go_wp2_with fail
      go_ret
      exact ⟨ret_bool HR.out.symm, rfl⟩
def SumR (w : World) (nb : Nat) (V : Array Value) (n gk : Nat) (kv iv : Value) (wr : World) : Prop := ∃ (i : Nat) (k : Int), iv = .int .i64 i ∧ kv = .int .i64 k ∧ i ≤ n ∧ gk = n - i ∧ Hid (Below w.heap.size w wr) ∧ Hid (Blk wr nb 30 V)
set_option maxHeartbeats 4000000 in
theorem rsum_any (An Ad A : Option Addr) (nn cn nd cd n c : Nat) (ns : List Nd) (l : List Int) (w : World) (hn : Sl w w.heap.size 3 An nn cn (ns.flatMap Nd.cells)) (hs : Sl w w.heap.size 1 A n c (intsV l)) (hl : ∀ x ∈ l, 0 ≤ x ∧ x < nn) :
    Calls Tryd.prog 34 #[.agg #[.slice An nn cn, .slice Ad nd cd], .slice A n c] w fun e w' => (∃ k : Int, e = .returned (.int .i64 k)) ∧ Below w.heap.size w w' := by
  have hnm := hs.le
  have hnn := hn.le
  have HS := Lib.hid hs
  have HN := Lib.hid hn
  have HL := Lib.hid hl
  clear hs hn hl
  go_enter Tryd.func34, Tryd.ntmps34
  go_upto_region 1 with (fail)
  have HB := Lib.hid (Blk.new w 30 #[.slice An nn cn, .slice Ad nd cd])
  have HW : Hid (Below w.heap.size w (w.alloc (.cells #[.slice An nn cn, .slice Ad nd cd] 30))) := (Below.refl _ _).alloc (Nat.le_refl _) _
  generalize World.alloc _ _ = w1 at *
  obtain ⟨nb, hnb⟩ : ∃ nb, nb = w.heap.size := ⟨_, rfl⟩
  rw [← hnb] at HB ⊢
  clear hnb
  go_wp2_with fail
  go_loopg [5, 6] n (SumR w nb #[.slice An nn cn, .slice Ad nd cd] n)
  case atStart => exact ⟨0, 0, rfl, rfl, Nat.zero_le _, rfl, HW, HB⟩
  case round =>
    clear HB HW
    obtain ⟨i, k, rfl, rfl, hi, rfl, hbl, hbx⟩ := hrel
    by_cases hlt : i < n
    · obtain ⟨b, off, y, rfl, hb, hy, hc⟩ := (HS.out.below hbl.out (Nat.le_refl _)).at1 hlt
      have hyy := HL.out y (List.mem_of_getElem? hy)
      obtain ⟨v, rfl⟩ := Int.eq_ofNat_of_zero_le hyy.1
      have hv : v < nn := by omega
      obtain ⟨b1, of1, z, rfl, hb1, hz, hcz⟩ := (HN.out.below hbl.out (Nat.le_refl _)).at (fun _ => rfl) (by decide) hv
      obtain ⟨nm2, cu, co2⟩ := z
      have c1 : wr.cell? ⟨b1, of1 + v * 3 + 1, none⟩ = some (.int .i64 cu) := hcz 1 _ rfl
      have k0 : wr.cell? ⟨nb, 0, none⟩ = some (.slice (some ⟨b1, of1, none⟩) nn cn) := hbx.out.cell 0
      clear hcz hz hy hyy
      go_upto_region 5 with (fail)
      refine wp_region_J (S := fun W' => W'.cell? ⟨nb, 0, none⟩ = some (.slice (some ⟨b1, of1, none⟩) nn cn) ∧ W'.cell? ⟨b, off + i, none⟩ = some (.int .i64 (v : Nat)) ∧ W'.cell? ⟨b1, of1 + v * 3 + 1, none⟩ = some (.int .i64 cu)) (J := []) (by kernel_rfl) ?_ (fun hHeld => ?_)
      · exact ⟨k0, hc, c1⟩
      try dsimp only at hHeld
      refine wpAnyJ_takeL (i := 0) (d := some 13) (v := ?_) #[true, false, false, false, false, false, false, false, false, false, false, false] (by kernel_rfl) rfl rfl (by kernel_rfl) (by kernel_rfl) (by kernel_rfl) (by kernel_rfl) (by kernel_rfl) (fun _ _ _ h => h) (Or.inl ⟨by rfl, ?_⟩) hHeld ?_
      rotate_left
      · (intro w hSw; (try dsimp only at hSw);  go_simp; try with_reducible rfl)
      try simp only [Act.put, List.setIfInBounds_toArray, List.set_cons_zero, List.set_cons_succ]
      refine wpAnyJ_takeL (i := 1) (d := some 14) (v := ?_) #[true, true, false, false, false, false, false, false, false, false, false, false] (by kernel_rfl) rfl rfl (by kernel_rfl) (by kernel_rfl) (by kernel_rfl) (by kernel_rfl) (by kernel_rfl) (fun _ _ _ h => h) (Or.inl ⟨by rfl, ?_⟩) hHeld ?_
      rotate_left
      · (intro w hSw; (try dsimp only at hSw);  go_simp; try with_reducible rfl)
      try simp only [Act.put, List.setIfInBounds_toArray, List.set_cons_zero, List.set_cons_succ]
      refine wpAnyJ_takeL (i := 2) (d := some 15) (v := ?_) #[true, true, true, false, false, false, false, false, false, false, false, false] (by kernel_rfl) rfl rfl (by kernel_rfl) (by kernel_rfl) (by kernel_rfl) (by kernel_rfl) (by kernel_rfl) (fun _ _ _ h => h) (Or.inl ⟨by rfl, ?_⟩) hHeld ?_
      rotate_left
      · (intro w hSw; (try dsimp only at hSw);  go_simp; try with_reducible rfl)
      try simp only [Act.put, List.setIfInBounds_toArray, List.set_cons_zero, List.set_cons_succ]
      refine wpAnyJ_takeL (i := 3) (d := some 16) (v := ?_) #[true, true, true, true, false, false, false, false, false, false, false, false] (by kernel_rfl) rfl rfl (by kernel_rfl) (by kernel_rfl) (by kernel_rfl) (by kernel_rfl) (by kernel_rfl) (fun _ _ _ h => h) (Or.inl ⟨by rfl, ?_⟩) hHeld ?_
      rotate_left
      · (intro w hSw; (try dsimp only at hSw);  go_simp; try with_reducible rfl)
      try simp only [Act.put, List.setIfInBounds_toArray, List.set_cons_zero, List.set_cons_succ]
      refine wpAnyJ_takeL (i := 4) (d := some 17) (v := ?_) #[true, true, true, true, true, false, false, false, false, false, false, false] (by kernel_rfl) rfl rfl (by kernel_rfl) (by kernel_rfl) (by kernel_rfl) (by kernel_rfl) (by kernel_rfl) (fun _ _ _ h => h) (Or.inl ⟨by rfl, ?_⟩) hHeld ?_
      rotate_left
      · (intro w hSw; (try dsimp only at hSw);  go_simp; try with_reducible rfl)
      try simp only [Act.put, List.setIfInBounds_toArray, List.set_cons_zero, List.set_cons_succ]
      refine wpAnyJ_takeL (i := 5) (d := some 18) (v := ?_) #[true, true, true, true, true, true, false, false, false, false, false, false] (by kernel_rfl) rfl rfl (by kernel_rfl) (by kernel_rfl) (by kernel_rfl) (by kernel_rfl) (by kernel_rfl) (fun _ _ _ h => h) (Or.inl ⟨by rfl, ?_⟩) hHeld ?_
      rotate_left
      · (intro w hSw; (try dsimp only at hSw);  go_simp; try with_reducible rfl)
      try simp only [Act.put, List.setIfInBounds_toArray, List.set_cons_zero, List.set_cons_succ]
      refine wpAnyJ_takeL (i := 6) (d := some 19) (v := ?_) #[true, true, true, true, true, true, true, false, false, false, false, false] (by kernel_rfl) rfl rfl (by kernel_rfl) (by kernel_rfl) (by kernel_rfl) (by kernel_rfl) (by kernel_rfl) (fun _ _ _ h => h) (Or.inl ⟨by rfl, ?_⟩) hHeld ?_
      rotate_left
      · (intro w hSw; (try dsimp only at hSw);  go_simp; try with_reducible rfl)
      try simp only [Act.put, List.setIfInBounds_toArray, List.set_cons_zero, List.set_cons_succ]
      refine wpAnyJ_takeL (i := 7) (d := some 20) (v := ?_) #[true, true, true, true, true, true, true, true, false, false, false, false] (by kernel_rfl) rfl rfl (by kernel_rfl) (by kernel_rfl) (by kernel_rfl) (by kernel_rfl) (by kernel_rfl) (fun _ _ _ h => h) (Or.inl ⟨by rfl, ?_⟩) hHeld ?_
      rotate_left
      · (intro w hSw; (try dsimp only at hSw);  go_simp; try with_reducible rfl)
      try simp only [Act.put, List.setIfInBounds_toArray, List.set_cons_zero, List.set_cons_succ]
      refine wpAnyJ_takeL (i := 8) (d := some 21) (v := ?_) #[true, true, true, true, true, true, true, true, true, false, false, false] (by kernel_rfl) rfl rfl (by kernel_rfl) (by kernel_rfl) (by kernel_rfl) (by kernel_rfl) (by kernel_rfl) (fun _ _ _ h => h) (Or.inl ⟨by rfl, ?_⟩) hHeld ?_
      rotate_left
      · (intro w hSw; (try dsimp only at hSw);  go_simp; try with_reducible rfl)
      try simp only [Act.put, List.setIfInBounds_toArray, List.set_cons_zero, List.set_cons_succ]
      refine wpAnyJ_takeL (i := 9) (d := some 22) (v := ?_) #[true, true, true, true, true, true, true, true, true, true, false, false] (by kernel_rfl) rfl rfl (by kernel_rfl) (by kernel_rfl) (by kernel_rfl) (by kernel_rfl) (by kernel_rfl) (fun _ _ _ h => h) (Or.inl ⟨by rfl, ?_⟩) hHeld ?_
      rotate_left
      · (intro w hSw; (try dsimp only at hSw);  go_simp; try with_reducible rfl)
      try simp only [Act.put, List.setIfInBounds_toArray, List.set_cons_zero, List.set_cons_succ]
      refine wpAnyJ_takeL (i := 10) (d := some 23) (v := ?_) #[true, true, true, true, true, true, true, true, true, true, true, false] (by kernel_rfl) rfl rfl (by kernel_rfl) (by kernel_rfl) (by kernel_rfl) (by kernel_rfl) (by kernel_rfl) (fun _ _ _ h => h) (Or.inl ⟨by rfl, ?_⟩) hHeld ?_
      rotate_left
      · (intro w hSw; (try dsimp only at hSw);  go_simp; try with_reducible rfl)
      try simp only [Act.put, List.setIfInBounds_toArray, List.set_cons_zero, List.set_cons_succ]
      refine wpAnyJ_takeL (i := 11) (d := some 5) (v := ?_) #[true, true, true, true, true, true, true, true, true, true, true, true] (by kernel_rfl) rfl rfl (by kernel_rfl) (by kernel_rfl) (by kernel_rfl) (by kernel_rfl) (by kernel_rfl) (fun _ _ _ h => h) (Or.inl ⟨by rfl, ?_⟩) hHeld ?_
      rotate_left
      · (intro w hSw; (try dsimp only at hSw);  go_simp; try with_reducible rfl)
      try simp only [Act.put, List.setIfInBounds_toArray, List.set_cons_zero, List.set_cons_succ]
      refine wpAnyJ_done (by kernel_rfl) ?_ _
      clear hHeld
      go_wp2_with fail
      go_roundg (n - (i + 1))
      case rel => exact ⟨i + 1, _, by go_num, rfl, by omega, rfl, hbl.out.drew, hbx⟩
      case measure => omega
    · obtain rfl : i = n := by omega
      have hii : decide (i < i) = false := by simp
      go_wp2_with fail
      go_ret
      exact ⟨⟨_, rfl⟩, hbl.out⟩
end Go.Proofs.YtddjifkmaogpiaaDoor
