import Derived.Test.YtbjndpjligpjaaaDoorZ09
import Derived.Shelf.Abstract
/-
  The program's layer 14: walks of valid, Locked, used, other, order.
-/
namespace Go.Proofs.YtbjndpjligpjaaaDoor
open Go.RowKit
set_option maxHeartbeats 2000000 in
theorem valid_any (An Ad : Option Addr) (nn cn nd cd Bd : Nat) (ds : List Dv) (d p q : Int) (w : World) (hd : Sl w Bd 5 Ad nd cd (ds.flatMap Dv.cells)) (hBd : Bd ≤ w.heap.size) :
    Calls Tryd.prog 37 #[.agg #[.slice An nn cn, .slice Ad nd cd], .agg #[.int .i64 d, .int .i64 p, .int .i64 q]] w fun e w' => e = .returned (.int .i64 (lkErr ds ⟨d, p, q⟩)) ∧ Below w.heap.size w w' := by
  have HLD := Lib.hid (hd.len (fun _ => rfl) (by decide))
  have HE : Hid (lkErr ds ⟨d, p, q⟩ = if d < 0 then 8 else if (nd : Int) ≤ d then 8 else if kindOf ds d = 5 then 6 else if p ≠ 1 ∧ p ≠ 2 then 10 else if q < 0 then 5 else if 65536 < q then 5 else 0) := by unfold Hid lkErr; rw [HLD.out]
  have HB : Hid (Below w.heap.size w ((w.alloc (.cells #[.slice An nn cn, .slice Ad nd cd] 27)).alloc (.cells #[.int .i64 d, .int .i64 p, .int .i64 q] 29))) := ((Below.refl _ _).alloc (Nat.le_refl _) _).alloc (by simp) _
  have HD2 := Lib.hid ((hd.alloc hBd (.cells #[.slice An nn cn, .slice Ad nd cd] 27)).alloc (by simp; omega) (.cells #[.int .i64 d, .int .i64 p, .int .i64 q] 29))
  have hdm := hd.le
  clear hd
  by_cases h1 : d < 0
  · have q1 : decide (d < 0) = true := by simpa using h1
    go_enter Tryd.func37, Tryd.ntmps37
    go_wp2_with fail
    go_ret
    exact ⟨ret_int (by rw [HE.out, if_pos h1]), HB.out⟩
  have q1 : decide (d < 0) = false := by simpa using h1
  by_cases h2 : (nd : Int) ≤ d
  · have q2 : decide ((nd : Int) ≤ d) = true := by simpa using h2
    go_enter Tryd.func37, Tryd.ntmps37
    go_wp2_with fail
    go_ret
    exact ⟨ret_int (by rw [HE.out, if_neg (by omega), if_pos h2]), HB.out⟩
  obtain ⟨i, rfl⟩ := Int.eq_ofNat_of_zero_le (show 0 ≤ d by omega)
  have hin : i < nd := by omega
  have q2 : decide (nd ≤ i) = false := by simp; omega
  obtain ⟨b0, off, x, rfl, hb0, hx, hc⟩ := HD2.out.at (fun _ => rfl) (by decide) hin
  have HX := Lib.hid (kindOf_at hx)
  obtain ⟨nm, kd, xa, xb, co⟩ := x
  have c1 := hc 1 _ rfl
  clear hc hx
  by_cases h3 : kd = 5
  · subst h3
    go_enter Tryd.func37, Tryd.ntmps37
    go_wp2_with fail
    go_ret
    exact ⟨ret_int (by rw [HE.out, if_neg (by omega), if_neg (by omega), HX.out, if_pos rfl]), HB.out⟩
  have q3 : (kd == 5) = false := by simpa using h3
  have HR : Hid (lkErr ds ⟨(i : Int), p, q⟩ = if p ≠ 1 ∧ p ≠ 2 then 10 else if q < 0 then 5 else if 65536 < q then 5 else 0) := by unfold Hid; rw [HE.out, if_neg (by omega), if_neg (by omega), HX.out, if_neg h3]
  clear h1 h2 h3 HE HX
  by_cases h4 : p = 1 ∨ p = 2
  · have HR2 : Hid (lkErr ds ⟨(i : Int), p, q⟩ = if q < 0 then 5 else if 65536 < q then 5 else 0) := by unfold Hid; rw [HR.out, if_neg (by omega)]
    clear HR
    by_cases h5 : q < 0
    · have q5 : decide (q < 0) = true := by simpa using h5
      rcases h4 with rfl | rfl
      all_goals
        go_enter Tryd.func37, Tryd.ntmps37
        go_wp2_with fail
        go_ret
        exact ⟨ret_int (by rw [HR2.out, if_pos h5]), HB.out⟩
    have q5 : decide (q < 0) = false := by simpa using h5
    by_cases h6 : 65536 < q
    · have q6 : decide (65536 < q) = true := by simpa using h6
      rcases h4 with rfl | rfl
      all_goals
        go_enter Tryd.func37, Tryd.ntmps37
        go_wp2_with fail
        go_ret
        exact ⟨ret_int (by rw [HR2.out, if_neg (by omega), if_pos h6]), HB.out⟩
    have q6 : decide (65536 < q) = false := by simpa using h6
    rcases h4 with rfl | rfl
    all_goals
      go_enter Tryd.func37, Tryd.ntmps37
      go_wp2_with fail
      go_ret
      exact ⟨ret_int (by rw [HR2.out, if_neg (by omega), if_neg (by omega)]), HB.out⟩
  · have p1 : (p != 1) = true := by simp; omega
    have p2 : (p != 2) = true := by simp; omega
    go_enter Tryd.func37, Tryd.ntmps37
    go_wp2_with fail
    go_ret
    exact ⟨ret_int (by rw [HR.out, if_pos (by omega)]), HB.out⟩

def PlR (w : World) (ls : List Lk) (d : Int) (n gk : Nat) (iv : Value) (wr : World) : Prop := ∃ i : Nat, iv = .int .i64 i ∧ i ≤ n ∧ gk = n - i ∧ Hid (∀ x ∈ ls.take i, x.dev ≠ d) ∧ Hid (Below w.heap.size w wr)
set_option maxHeartbeats 2000000 in
theorem locked_any (A : Option Addr) (n c B : Nat) (ls : List Lk) (d : Int) (w : World) (hs : Sl w B 3 A n c (ls.flatMap Lk.cells)) (hB : B ≤ w.heap.size) :
    Calls Tryd.prog 23 #[.slice A n c, .int .i64 d] w fun e w' => e = lckE ls d ∧ Below w.heap.size w w' := by
  have HLN := Lib.hid (hs.len (fun _ => rfl) (by decide)); have HS := Lib.hid hs
  have hle := hs.le
  clear hs
  go_enter Tryd.func23, Tryd.ntmps23
  go_wp2_with fail
  go_loopg [10] n (PlR w ls d n)
  case atStart => exact ⟨0, rfl, Nat.zero_le _, rfl, (fun x hx => by simp at hx), Below.refl _ _⟩
  case round =>
    obtain ⟨i, rfl, hi, rfl, hno, hbl⟩ := hrel
    by_cases hlt : i < n
    · obtain ⟨b, off, d1, p1, q1, rfl, hb, hx, c0, c1, c2⟩ := (HS.out.below hbl.out hB).lock hlt
      have HX := Lib.hid hx
      have HB2 : Hid (Below w.heap.size w (wr.alloc (.cells #[.int .i64 d1, .int .i64 p1, .int .i64 q1] 29))) := hbl.out.alloc hbl.out.size _
      clear hx
      by_cases hd : d1 = d
      · subst hd
        have HR : Hid (lckL ls d1 = some p1) := lck_hit hno.out HX.out rfl
        have qq : (d1 == d1) = true := by simp
        go_wp2_with fail
        go_ret2
        exact ⟨by unfold lckE; rw [HR.out]; rfl, HB2.out⟩
      · have qq : (d1 == d) = false := by simpa using hd
        have HN : Hid (∀ x ∈ ls.take (i + 1), x.dev ≠ d) := fun x hx => by
          rw [take_snoc HX.out] at hx
          rcases List.mem_append.1 hx with h | h
          · exact hno.out x h
          · rw [List.mem_singleton.1 h]; exact hd
        clear hd
        go_wp2_with fail
        go_roundg (n - (i + 1))
        case rel => exact ⟨i + 1, by go_num, by omega, rfl, HN, HB2⟩
        case measure => omega
    · obtain rfl : i = n := by omega
      have hii : decide (i < i) = false := by simp
      have HR : Hid (lckL ls d = none) := by
        have := hno.out
        rw [List.take_of_length_le (by rw [HLN.out]; exact Nat.le_refl _)] at this
        exact lck_none.2 this
      go_wp2_with fail
      go_ret2
      exact ⟨by unfold lckE; rw [HR.out]; rfl, hbl.out⟩
/-- A predicate on locks that a function value tells. -/
def PredL (g : Nat) (lb : Array Value) (p : Lk → Bool) (w : World) : Prop :=
  ∀ (W : World) (d q r : Int), Below w.heap.size w W → Calls Tryd.prog g (#[.agg #[.int .i64 d, .int .i64 q, .int .i64 r]] ++ lb) W fun e w' => e = .returned (.bool (p ⟨d, q, r⟩)) ∧ Below w.heap.size w w'
def IfR (w : World) (ls : List Lk) (p : Lk → Bool) (n gk : Nat) (_kv iv : Value) (wr : World) : Prop := ∃ i : Nat, iv = .int .i64 i ∧ i ≤ n ∧ gk = n - i ∧ Hid (∀ x ∈ ls.take i, p x = false) ∧ Hid (Below w.heap.size w wr)
set_option maxHeartbeats 2000000 in
theorem idxf_any (g : Nat) (lb : Array Value) (p : Lk → Bool) (eg : ∀ args w, (callFunc g args).run Tryd.prog w = .ok (.enter g args) w) (A : Option Addr) (n c B : Nat) (ls : List Lk) (w : World) (hs : Sl w B 3 A n c (ls.flatMap Lk.cells)) (hB : B ≤ w.heap.size) (hp : PredL g lb p w) :
    Calls Tryd.prog 65 #[.slice A n c, .func (.func g) #[] lb] w fun e w' => (∃ i : Int, e = .returned (.int .i64 i) ∧ Hid (decide (0 ≤ i) = ls.any p)) ∧ Below w.heap.size w w' := by
  have HLN := Lib.hid (hs.len (fun _ => rfl) (by decide)); have HS := Lib.hid hs
  have hle := hs.le
  have HP := Lib.hid hp
  clear hs hp
  go_enter Tryd.func65, Tryd.ntmps65
  go_wp2_with fail
  go_loopg [5, 8] n (IfR w ls p n)
  case atStart => exact ⟨0, rfl, Nat.zero_le _, rfl, (fun x hx => by simp at hx), Below.refl _ _⟩
  case round =>
    obtain ⟨i, rfl, hi, rfl, hno, hbl⟩ := hrel
    by_cases hlt : i < n
    · obtain ⟨b, off, d1, p1, q1, rfl, hb, hx, c0, c1, c2⟩ := (HS.out.below hbl.out hB).lock hlt
      have HX := Lib.hid hx
      have hcall := HP.out wr d1 p1 q1 hbl.out
      clear hx
      rcases hq : p ⟨d1, p1, q1⟩ with _ | _
      · rw [hq] at hcall
        have HN : Hid (∀ x ∈ ls.take (i + 1), p x = false) := fun x hx => by
          rw [take_snoc HX.out] at hx
          rcases List.mem_append.1 hx with h | h
          · exact hno.out x h
          · rw [List.mem_singleton.1 h]; exact hq
        clear hq
        go_wp2_with (go_at_fn g; refine hcall.mono ?_; rintro e w' ⟨rfl, hb'⟩)
        go_roundg (n - (i + 1))
        case rel => exact ⟨i + 1, by go_num, by omega, rfl, HN, hb'⟩
        case measure => omega
      · rw [hq] at hcall
        have HR : Hid (decide (0 ≤ (i : Int)) = ls.any p) := by
          unfold Hid
          rw [decide_eq_true (by omega)]
          symm
          rw [List.any_eq_true]
          exact ⟨_, List.mem_of_getElem? HX.out, hq⟩
        clear hq
        go_wp2_with (go_at_fn g; refine hcall.mono ?_; rintro e w' ⟨rfl, hb'⟩)
        go_ret
        exact ⟨⟨_, rfl, HR⟩, hb'⟩
    · obtain rfl : i = n := by omega
      have hii : decide (i < i) = false := by simp
      have HR : Hid (decide (0 ≤ (-1 : Int)) = ls.any p) := by
        have := hno.out
        rw [List.take_of_length_le (by rw [HLN.out]; exact Nat.le_refl _)] at this
        unfold Hid
        rw [decide_eq_false (by omega)]
        symm
        rw [List.any_eq_false]
        intro x hx
        rw [this x hx]; simp
      go_wp2_with fail
      go_ret
      exact ⟨⟨_, rfl, HR⟩, hbl.out⟩
set_option maxHeartbeats 2000000 in
theorem contf_any (g : Nat) (lb : Array Value) (p : Lk → Bool) (eg : ∀ args w, (callFunc g args).run Tryd.prog w = .ok (.enter g args) w) (A : Option Addr) (n c B : Nat) (ls : List Lk) (w : World) (hs : Sl w B 3 A n c (ls.flatMap Lk.cells)) (hB : B ≤ w.heap.size) (hp : PredL g lb p w) :
    Calls Tryd.prog 55 #[.slice A n c, .func (.func g) #[] lb] w fun e w' => e = .returned (.bool (ls.any p)) ∧ Below w.heap.size w w' := by
  have HI := Lib.hid (idxf_any g lb p eg A n c B ls w hs hB hp)
  clear hs hp
  go_enter Tryd.func55, Tryd.ntmps55
  go_wp2_with fail
  refine HI.out.mono ?_
  rintro e w1 ⟨⟨i, rfl, hi⟩, hb⟩
  go_wp2_with fail
  go_ret
  exact ⟨ret_bool hi.out, hb⟩
set_option maxHeartbeats 2000000 in
theorem used_any (A : Option Addr) (n c B : Nat) (ls : List Lk) (q : Int) (w : World) (hs : Sl w B 3 A n c (ls.flatMap Lk.cells)) (hB : B ≤ w.heap.size) :
    Calls Tryd.prog 40 #[.slice A n c, .int .i64 q] w fun e w' => e = .returned (.bool (usdL ls q)) ∧ Below w.heap.size w w' := by
  have HP : Hid (PredL 57 #[.pointer (some ⟨w.heap.size, 0, none⟩)] (fun x => decide (x.key = q)) (w.alloc (.cells #[.int .i64 q] 3))) := by
    intro W d p q1 hb
    have hc : W.cell? ⟨w.heap.size, 0, none⟩ = some (.int .i64 q) := (hb.cell (p := ⟨w.heap.size, 0, none⟩) (by simp)).trans (by simp)
    have hBW : w.heap.size < W.heap.size := Nat.lt_of_lt_of_le (by simp) hb.size
    have hne : w.heap.size ≠ W.heap.size := by omega
    show Calls Tryd.prog 57 #[.agg #[.int .i64 d, .int .i64 p, .int .i64 q1], .pointer (some ⟨w.heap.size, 0, none⟩)] W _
    go_enter Tryd.func57, Tryd.ntmps57
    go_wp2_with fail
    go_ret
    exact ⟨ret_bool (by by_cases h : q1 = q <;> simp [h]), hb.alloc hb.size _⟩
  have HI := Lib.hid (contf_any 57 #[.pointer (some ⟨w.heap.size, 0, none⟩)] (fun x => decide (x.key = q)) (enters_of Tryd.func57 (by kernel_rfl) rfl) A n c B ls _ (hs.alloc hB _) (by simp; omega) HP.out)
  have HB : Hid (Below w.heap.size w (w.alloc (.cells #[.int .i64 q] 3))) := (Below.refl _ _).alloc (Nat.le_refl _) _
  clear hs HP
  go_enter Tryd.func40, Tryd.ntmps40
  go_wp2_with fail
  refine HI.out.mono ?_
  rintro e w1 ⟨rfl, hb⟩
  have HB2 := Lib.hid (HB.out.trans (hb.mono (by simp)))
  clear hb
  go_wp2_with fail
  go_ret
  exact ⟨rfl, HB2.out⟩
set_option maxHeartbeats 2000000 in
theorem other_any (A : Option Addr) (n c B : Nat) (ls : List Lk) (d p q : Int) (w : World) (hs : Sl w B 3 A n c (ls.flatMap Lk.cells)) (hB : B ≤ w.heap.size) :
    Calls Tryd.prog 39 #[.slice A n c, .agg #[.int .i64 d, .int .i64 p, .int .i64 q]] w fun e w' => e = .returned (.bool (othL ls ⟨d, p, q⟩)) ∧ Below w.heap.size w w' := by
  have HP : Hid (PredL 56 #[.pointer (some ⟨w.heap.size, 0, none⟩)] (othB ⟨d, p, q⟩) (w.alloc (.cells #[.int .i64 d, .int .i64 p, .int .i64 q] 29))) := by
    intro W d1 p1 q1 hb
    have hc0 : W.cell? ⟨w.heap.size, 0, none⟩ = some (.int .i64 d) := (hb.cell (p := ⟨w.heap.size, 0, none⟩) (by simp)).trans (by simp)
    have hc1 : W.cell? ⟨w.heap.size, 1, none⟩ = some (.int .i64 p) := (hb.cell (p := ⟨w.heap.size, 1, none⟩) (by simp)).trans (by simp)
    have hBW : w.heap.size < W.heap.size := Nat.lt_of_lt_of_le (by simp) hb.size
    have hne : w.heap.size ≠ W.heap.size := by omega
    have HBW : Hid (Below (w.alloc (.cells #[.int .i64 d, .int .i64 p, .int .i64 q] 29)).heap.size (w.alloc (.cells #[.int .i64 d, .int .i64 p, .int .i64 q] 29)) (W.alloc (.cells #[.int .i64 d1, .int .i64 p1, .int .i64 q1] 29))) := hb.alloc hb.size _
    clear hb
    show Calls Tryd.prog 56 #[.agg #[.int .i64 d1, .int .i64 p1, .int .i64 q1], .pointer (some ⟨w.heap.size, 0, none⟩)] W _
    by_cases h : d1 = d
    · subst h
      have qd : (d1 == d1) = true := by simp
      go_enter Tryd.func56, Tryd.ntmps56
      go_wp2_with fail
      go_ret
      exact ⟨ret_bool (by by_cases h : p1 = p <;> simp [h, othB]), HBW.out⟩
    · have qd : (d1 == d) = false := by simpa using h
      have HR : Hid (othB ⟨d, p, q⟩ ⟨d1, p1, q1⟩ = false) := by unfold Hid; simp [othB, h]
      go_enter Tryd.func56, Tryd.ntmps56
      go_wp2_with fail
      go_ret
      exact ⟨ret_bool HR.out.symm, HBW.out⟩
  have HI := Lib.hid (contf_any 56 #[.pointer (some ⟨w.heap.size, 0, none⟩)] (othB ⟨d, p, q⟩) (enters_of Tryd.func56 (by kernel_rfl) rfl) A n c B ls _ (hs.alloc hB _) (by simp; omega) HP.out)
  have HB : Hid (Below w.heap.size w (w.alloc (.cells #[.int .i64 d, .int .i64 p, .int .i64 q] 29))) := (Below.refl _ _).alloc (Nat.le_refl _) _
  clear hs HP
  go_enter Tryd.func39, Tryd.ntmps39
  go_wp2_with fail
  refine HI.out.mono ?_
  rintro e w1 ⟨rfl, hb⟩
  have HB2 := Lib.hid (HB.out.trans (hb.mono (by simp)))
  clear hb
  go_wp2_with fail
  go_ret
  exact ⟨rfl, HB2.out⟩
end Go.Proofs.YtbjndpjligpjaaaDoor
