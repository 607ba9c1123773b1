import Derived.Test.YtddddlhgaeameaaGreatDoorM15
import Derived.Shelf.Abstract
set_option maxHeartbeats 2000000
namespace Go.Proofs.YtddddlhgaeameaaGreatDoor
section
open Go.RowKit
def zO (ns : List Nd) (ds : List Dv) (ls : List Lk) : Int := if zR ns ds ≠ 0 then zR ns ds else if 128 < ls.length then 1 else yH ds ls ls.length
theorem ry {ds : List Dv} {x : Dv} {i : Nat} (h : ds[i]? = some x) : su ds (i : Int) = x.kind := by unfold su; rw [Int.toNat_natCast, h]
theorem sf (An Ad : Option Addr) (nn cn nd cd Bd : Nat) (ds : List Dv) (d p q : Int) (w : World) (hd : Sl w Bd 5 Ad nd cd (ds.flatMap Dv.cells)) (hBd : Bd ≤ w.heap.size) :
 Calls Tryz.prog 55 #[.agg #[.slice An nn cn, .slice Ad nd cd], .agg #[.int .i64 d, .int .i64 p, .int .i64 q]] w fun e w' => e = .returned (.int .i64 (zv ds ⟨d, p, q⟩)) ∧ Below w.heap.size w w' := by
 have HLD := iD (hd.len (fun _ => rfl) (by decide))
 have HE : Hid (zv ds ⟨d, p, q⟩ = if d < 0 then 8 else if (nd : Int) ≤ d then 8 else if su ds d = 5 then 6 else if p ≠ 1 ∧ p ≠ 2 then 10 else if q < 0 then 5 else if 65536 < q then 5 else 0) := by unfold Hid zv; rw [HLD.out]
 have HB : Hid (Below w.heap.size w ((w.alloc (.cells #[.slice An nn cn, .slice Ad nd cd] 26)).alloc (.cells #[.int .i64 d, .int .i64 p, .int .i64 q] 87))) := ((Below.refl _ _).alloc lR _).alloc (by simp) _
 have HD2 := iD ((hd.alloc hBd (.cells #[.slice An nn cn, .slice Ad nd cd] 26)).alloc (by simp; omega) (.cells #[.int .i64 d, .int .i64 p, .int .i64 q] 87))
 have hdm := hd.le
 clear hd
 by_cases h1 : d < 0
 ·have q1 : decide (d < 0) = true := by simpa using h1
  go_enter Tryz.func55, Tryz.ntmps55
  go_wp2_with fail
  go_ret
  exact ⟨zE (by rw [HE.out, if_pos h1]), HB.out⟩
 have q1 : decide (d < 0) = false := by simpa using h1
 by_cases h2 : (nd : Int) ≤ d
 ·have q2 : decide ((nd : Int) ≤ d) = true := by simpa using h2
  go_enter Tryz.func55, Tryz.ntmps55
  go_wp2_with fail
  go_ret
  exact ⟨zE (by rw [HE.out, if_neg (by omega), if_pos h2]), HB.out⟩
 obtain ⟨i, rfl⟩ := Int.eq_ofNat_of_zero_le (show 0 ≤ d by omega)
 have hin : i < nd := by omega
 have q2 : decide (nd ≤ i) = false := by simp; omega
 obtain ⟨b0, off, x, rfl, hb0, hx, hc⟩ := HD2.out.at (fun _ => rfl) (by decide) hin
 have HX := iD (ry hx)
 obtain ⟨nm, kd, xa, xb, co⟩ := x
 have c1 := hc 1 _ rfl
 clear hc hx
 by_cases h3 : kd = 5
 ·subst h3
  go_enter Tryz.func55, Tryz.ntmps55
  go_wp2_with fail
  go_ret
  exact ⟨zE (by rw [HE.out, if_neg (by omega), if_neg (by omega), HX.out, if_pos rfl]), HB.out⟩
 have q3 : (kd == 5) = false := by simpa using h3
 have HR : Hid (zv ds ⟨(i : Int), p, q⟩ = if p ≠ 1 ∧ p ≠ 2 then 10 else if q < 0 then 5 else if 65536 < q then 5 else 0) := by unfold Hid; rw [HE.out, if_neg (by omega), if_neg (by omega), HX.out, if_neg h3]
 clear h1 h2 h3 HE HX
 by_cases h4 : p = 1 ∨ p = 2
 ·have HR2 : Hid (zv ds ⟨(i : Int), p, q⟩ = if q < 0 then 5 else if 65536 < q then 5 else 0) := by unfold Hid; rw [HR.out, if_neg (by omega)]
  clear HR
  by_cases h5 : q < 0
  ·have q5 : decide (q < 0) = true := by simpa using h5
   rcases h4 with rfl | rfl
   all_goals
    go_enter Tryz.func55, Tryz.ntmps55
    go_wp2_with fail
    go_ret
    exact ⟨zE (by rw [HR2.out, if_pos h5]), HB.out⟩
  have q5 : decide (q < 0) = false := by simpa using h5
  by_cases h6 : 65536 < q
  ·have q6 : decide (65536 < q) = true := by simpa using h6
   rcases h4 with rfl | rfl
   all_goals
    go_enter Tryz.func55, Tryz.ntmps55
    go_wp2_with fail
    go_ret
    exact ⟨zE (by rw [HR2.out, if_neg (by omega), if_pos h6]), HB.out⟩
  have q6 : decide (65536 < q) = false := by simpa using h6
  rcases h4 with rfl | rfl
  all_goals
   go_enter Tryz.func55, Tryz.ntmps55
   go_wp2_with fail
   go_ret
   exact ⟨zE (by rw [HR2.out, if_neg (by omega), if_neg (by omega)]), HB.out⟩
 ·have p1 : (p != 1) = true := by simp; omega
  have p2 : (p != 2) = true := by simp; omega
  go_enter Tryz.func55, Tryz.ntmps55
  go_wp2_with fail
  go_ret
  exact ⟨zE (by rw [HR.out, if_pos (by omega)]), HB.out⟩
theorem rJ (a b : Lk) (w : World) : Calls Tryz.prog 57 #[.agg #[.int .i64 a.dev, .int .i64 a.pos, .int .i64 a.key], .agg #[.int .i64 b.dev, .int .i64 b.pos, .int .i64 b.key]] w fun e w' => e = .returned (.bool (zo a b)) ∧ Below w.heap.size w w' := by
 obtain ⟨d, p, q⟩ := a
 obtain ⟨d2, p2, q2⟩ := b
 have HB : Hid (Below w.heap.size w ((w.alloc (.cells #[.int .i64 d, .int .i64 p, .int .i64 q] 87)).alloc (.cells #[.int .i64 d2, .int .i64 p2, .int .i64 q2] 87))) := ((Below.refl _ _).alloc lR _).alloc (by simp) _
 by_cases h1 : d < d2
 ·have e1 : decide (d < d2) = true := by simpa using h1
  have HR : Hid (zo ⟨d, p, q⟩ ⟨d2, p2, q2⟩ = true) := (uG _ _).2 (.inl h1)
  go_enter Tryz.func57, Tryz.ntmps57
  go_wp2_with fail
  go_ret
  exact ⟨zI HR.out.symm, HB.out⟩
 have e1 : decide (d < d2) = false := by simpa using h1
 by_cases h2 : d = d2
 ·subst h2
  have HR : Hid (zo ⟨d, p, q⟩ ⟨d, p2, q2⟩ = decide (q < q2)) := by unfold Hid zo; simp
  go_enter Tryz.func57, Tryz.ntmps57
  go_wp2_with fail
  go_ret
  exact ⟨zI HR.out.symm, HB.out⟩
 ·have e2 : (d == d2) = false := by simpa using h2
  have HR : Hid (zo ⟨d, p, q⟩ ⟨d2, p2, q2⟩ = false) := by unfold Hid zo; simp; omega
  go_enter Tryz.func57, Tryz.ntmps57
  go_wp2_with fail
  go_ret
  exact ⟨zI HR.out.symm, HB.out⟩
def pq (ls : List Lk) (d : Int) : Ending := .returned (.tuple #[.int .i64 ((wH ls d).getD 0), .bool (wH ls d).isSome])
theorem lu {ls : List Lk} {d : Int} : ∀ {i : Nat}, (∀ x ∈ ls.take i, x.dev ≠ d) → wH ls d = wH (ls.drop i) d := by
 intro i
 induction i generalizing ls with
 | zero => intro _; rfl
 | succ i ih =>
  intro h
  cases ls with
  | nil => rfl
  | cons x l =>
   rw [wH, if_neg (h x (by simp)), List.drop_succ_cons]
   exact ih fun y hy => h y (by simp [hy])
theorem nr {ls : List Lk} {d : Int} {i : Nat} {x : Lk} (h : ∀ x ∈ ls.take i, x.dev ≠ d) (hx : ls[i]? = some x) (hd : x.dev = d) : wH ls d = some x.pos := by
 rw [lu h]
 have hi := (List.getElem?_eq_some_iff.1 hx).1
 rw [List.drop_eq_getElem_cons hi, wH]
 have : ls[i] = x := by have := List.getElem?_eq_some_iff.1 hx; exact this.2
 rw [this, if_pos hd]
def iY (w : World) (ls : List Lk) (d : Int) (n gk : Nat) (iv : Value) (wr : World) : Prop := ∃ i : Nat, iv = .int .i64 i ∧ i ≤ n ∧ gk = n - i ∧ Hid (∀ x ∈ ls.take i, x.dev ≠ d) ∧ Hid (Below w.heap.size w wr)
theorem pU (A : Option Addr) (n c B : Nat) (ls : List Lk) (d : Int) (w : World) (hs : Sl w B 3 A n c (ls.flatMap Lk.cells)) (hB : B ≤ w.heap.size) :
 Calls Tryz.prog 56 #[.slice A n c, .int .i64 d] w fun e w' => e = pq ls d ∧ Below w.heap.size w w' := by
 have HLN := iD (hs.len (fun _ => rfl) (by decide)); have HS := iD hs
 have hle := hs.le
 clear hs
 go_enter Tryz.func56, Tryz.ntmps56
 go_wp2_with fail
 go_loopg [6] n (iY w ls d n)
 case atStart => exact ⟨0, rfl, Nat.zero_le _, rfl, (fun x hx => by simp at hx), Below.refl _ _⟩
 case round =>
  obtain ⟨i, rfl, hi, rfl, hno, hbl⟩ := hrel
  by_cases hlt : i < n
  ·obtain ⟨b, off, d1, p1, q1, rfl, hb, hx, c0, c1, c2⟩ := (HS.out.below hbl.out hB).lock hlt
   have HX := iD hx
   clear hx c2
   by_cases hd : d1 = d
   ·subst hd
    have HR : Hid (wH ls d1 = some p1) := nr hno.out HX.out rfl
    have qq : (d1 == d1) = true := by simp
    go_wp2_with fail
    go_ret2
    exact ⟨by unfold pq; rw [HR.out]; rfl, hbl.out⟩
   ·have qq : (d1 == d) = false := by simpa using hd
    have HN : Hid (∀ x ∈ ls.take (i + 1), x.dev ≠ d) := fun x hx => by
     rw [zV HX.out] at hx
     rcases List.mem_append.1 hx with h | h
     ·exact hno.out x h
     ·rw [List.mem_singleton.1 h]; exact hd
    clear hd
    go_wp2_with fail
    go_roundg (n - (i + 1))
    case rel => exact ⟨i + 1, by go_num, by omega, rfl, HN, hbl⟩
    case measure => omega
  ·obtain rfl : i = n := by omega
   have hii : decide (i < i) = false := by simp
   have HR : Hid (wH ls d = none) := by
    have := hno.out
    rw [List.take_of_length_le (by rw [HLN.out]; exact Nat.le_refl _)] at this
    exact vo.2 this
   go_wp2_with fail
   go_ret2
   exact ⟨by unfold pq; rw [HR.out]; rfl, hbl.out⟩
end
section
open Go.RowKit
section
variable {w : World} {B size n c k : Nat} {A : Option Addr} {α : Type} {f : α → List Value} {l : List α}
theorem Sl.takeK (h : Sl w B size A n c (l.flatMap f)) (hf : ∀ x, (f x).length = size) (hs : 0 < size) (hk : k ≤ n) : Sl w B size A k c ((l.take k).flatMap f) := by
 have hl := h.len hf hs
 obtain ⟨h1, h2, h3, h4, h5⟩ := h
 refine ⟨by rw [yP hf, List.length_take, Nat.min_eq_left (by omega)], by omega, h3, h4, fun hp => ?_⟩
 obtain ⟨b, off, e, hb, hc⟩ := h5 (by omega)
 refine ⟨b, off, e, hb, fun j u hu => hc j u ?_⟩
 rw [← List.take_append_drop k l, List.flatMap_append, List.getElem?_append_left (List.getElem?_eq_some_iff.1 hu).1]
 exact hu
def pC (A : Option Addr) (c k size : Nat) : Option Addr := if c = k then A else A.map (·.add (k * size))
theorem Sl.dropK (h : Sl w B size A n c (l.flatMap f)) (hf : ∀ x, (f x).length = size) (hs : 0 < size) (hk : k ≤ n) : Sl w B size (pC A c k size) (n - k) (c - k) ((l.drop k).flatMap f) := by
 have hl := h.len hf hs
 obtain ⟨h1, h2, h3, h4, h5⟩ := h
 refine ⟨by rw [yP hf, List.length_drop, hl], by omega, by omega, fun e => ?_, fun hp => ?_⟩
 ·unfold pC at e
  split at e
  ·omega
  ·cases A with
   | none => have := h4 rfl; omega
   | some a => cases e
 ·obtain ⟨b, off, e, hb, hc⟩ := h5 (by omega)
  subst e
  refine ⟨b, off + k * size, by unfold pC; rw [if_neg (by omega), Option.map_some, xd], hb, fun j u hu => ?_⟩
  have := hc (k * size + j) u (by
   rw [← List.take_append_drop k l, List.flatMap_append, List.getElem?_append_right (by rw [yP hf, List.length_take, Nat.min_eq_left (by omega)]; omega), yP hf, List.length_take, Nat.min_eq_left (by omega), show k * size + j - k * size = j by omega]
   exact hu)
  rw [Nat.add_assoc]; exact this
end
theorem vk (w : World) (A : Option Addr) (n c k : Nat) (hk : k ≤ n) : (Instr.sliceAt 27 (.slice A n c) (some (.int .i64 (k : Int))) none none).run Tryz.prog w = .ok (.slice (pC A c k 3) (n - k) (c - k)) w := by
 rw [run_sliceAt_slice _ _ _ _ _ _ (by kernel_rfl), run_slice_l _ _ _ _ _ (by kernel_rfl) _ _ (by omega) (by omega)]
 have : (sizeOf (Tryz.prog.elem 27)).run Tryz.prog w = .ok 3 w := by kernel_rfl
 rw [this]
 simp [sliced, pC, Result.andThen]
end
section
open Go.RowKit
def oV (g : Nat) (lb : Array Value) (p : Lk → Bool) (w : World) : Prop :=
 ∀ (W : World) (d q r : Int), Below w.heap.size w W → Calls Tryz.prog g (#[.agg #[.int .i64 d, .int .i64 q, .int .i64 r]] ++ lb) W fun e w' => e = .returned (.bool (p ⟨d, q, r⟩)) ∧ Below w.heap.size w w'
def IfR (w : World) (ls : List Lk) (p : Lk → Bool) (n gk : Nat) (_kv iv : Value) (wr : World) : Prop := ∃ i : Nat, iv = .int .i64 i ∧ i ≤ n ∧ gk = n - i ∧ Hid (∀ x ∈ ls.take i, p x = false) ∧ Hid (Below w.heap.size w wr)
theorem kA (g : Nat) (lb : Array Value) (p : Lk → Bool) (eg : ∀ args w, (callFunc g args).run Tryz.prog w = .ok (.enter g args) w) (A : Option Addr) (n c B : Nat) (ls : List Lk) (w : World) (hs : Sl w B 3 A n c (ls.flatMap Lk.cells)) (hB : B ≤ w.heap.size) (hp : oV g lb p w) :
 Calls Tryz.prog 132 #[.slice A n c, .func (.func g) #[] lb] w fun e w' => (∃ i : Int, e = .returned (.int .i64 i) ∧ Hid (decide (0 ≤ i) = ls.any p)) ∧ Below w.heap.size w w' := by
 have HLN := iD (hs.len (fun _ => rfl) (by decide)); have HS := iD hs
 have hle := hs.le
 have HP := iD hp
 clear hs hp
 go_enter Tryz.func132, Tryz.ntmps132
 go_wp2_with fail
 go_loopg [5, 8] n (IfR w ls p n)
 case atStart => exact ⟨0, rfl, Nat.zero_le _, rfl, (fun x hx => by simp at hx), Below.refl _ _⟩
 case round =>
  obtain ⟨i, rfl, hi, rfl, hno, hbl⟩ := hrel
  by_cases hlt : i < n
  ·obtain ⟨b, off, d1, p1, q1, rfl, hb, hx, c0, c1, c2⟩ := (HS.out.below hbl.out hB).lock hlt
   have HX := iD hx
   have hcall := HP.out wr d1 p1 q1 hbl.out
   clear hx
   rcases hq : p ⟨d1, p1, q1⟩ with _ | _
   ·rw [hq] at hcall
    have HN : Hid (∀ x ∈ ls.take (i + 1), p x = false) := fun x hx => by
     rw [zV HX.out] at hx
     rcases List.mem_append.1 hx with h | h
     ·exact hno.out x h
     ·rw [List.mem_singleton.1 h]; exact hq
    clear hq
    go_wp2_with (go_at_fn g; refine hcall.mono ?_; rintro e w' ⟨rfl, hb'⟩)
    go_roundg (n - (i + 1))
    case rel => exact ⟨i + 1, by go_num, by omega, rfl, HN, hb'⟩
    case measure => omega
   ·rw [hq] at hcall
    have HR : Hid (decide (0 ≤ (i : Int)) = ls.any p) := by
     unfold Hid
     rw [decide_eq_true (by omega)]
     symm
     rw [List.any_eq_true]
     exact ⟨_, List.mem_of_getElem? HX.out, hq⟩
    clear hq
    go_wp2_with (go_at_fn g; refine hcall.mono ?_; rintro e w' ⟨rfl, hb'⟩)
    go_ret
    exact ⟨⟨_, rfl, HR⟩, hb'⟩
  ·obtain rfl : i = n := by omega
   have hii : decide (i < i) = false := by simp
   have HR : Hid (decide (0 ≤ (-1 : Int)) = ls.any p) := by
    have := hno.out
    rw [List.take_of_length_le (by rw [HLN.out]; exact Nat.le_refl _)] at this
    unfold Hid
    rw [decide_eq_false (by omega)]
    symm
    rw [List.any_eq_false]
    intro x hx
    rw [this x hx]; simp
   go_wp2_with fail
   go_ret
   exact ⟨⟨_, rfl, HR⟩, hbl.out⟩
theorem tV (g : Nat) (lb : Array Value) (p : Lk → Bool) (eg : ∀ args w, (callFunc g args).run Tryz.prog w = .ok (.enter g args) w) (A : Option Addr) (n c B : Nat) (ls : List Lk) (w : World) (hs : Sl w B 3 A n c (ls.flatMap Lk.cells)) (hB : B ≤ w.heap.size) (hp : oV g lb p w) :
 Calls Tryz.prog 108 #[.slice A n c, .func (.func g) #[] lb] w fun e w' => e = .returned (.bool (ls.any p)) ∧ Below w.heap.size w w' := by
 have HI := iD (kA g lb p eg A n c B ls w hs hB hp)
 clear hs hp
 go_enter Tryz.func108, Tryz.ntmps108
 go_wp2_with fail
 refine HI.out.mono ?_
 rintro e w1 ⟨⟨i, rfl, hi⟩, hb⟩
 go_wp2_with fail
 go_ret
 exact ⟨zI hi.out, hb⟩
end
section
open Go.RowKit
end
end Go.Proofs.YtddddlhgaeameaaGreatDoor
