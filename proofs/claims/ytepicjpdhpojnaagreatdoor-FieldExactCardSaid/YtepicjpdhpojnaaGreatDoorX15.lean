import Derived.Test.YtepicjpdhpojnaaGreatDoorX14
set_option maxHeartbeats 2000000
namespace Go.Proofs.YtepicjpdhpojnaaGreatDoor
open Go.RowKit
def zL (ns : List Nd) (ds : List Dv) (ls : List Lk) : Int := if zX ns ds ≠ 0 then zX ns ds else if 128 < ls.length then 1 else yW ds ls ls.length
theorem xz {ds : List Dv} {x : Dv} {i : Nat} (h : ds[i]? = some x) : xU ds (i : Int) = x.kind := by unfold xU; rw [Int.toNat_natCast, h]
theorem re (An Ad : Option Addr) (nn cn nd cd Bd : Nat) (ds : List Dv) (d p q : Int) (w : World) (hd : Sl w Bd 5 Ad nd cd (ds.flatMap Dv.cells)) (hBd : Bd ≤ w.heap.size) :
 Calls Tryz.prog 69 #[.agg #[.slice An nn cn, .slice Ad nd cd], .agg #[.int .i64 d, .int .i64 p, .int .i64 q]] w fun e w' => e = .returned (.int .i64 (yJ ds ⟨d, p, q⟩)) ∧ Below w.heap.size w w' := by
 have HLD := iD (hd.len (fun _ => rfl) (by decide))
 have HE : Hid (yJ ds ⟨d, p, q⟩ = if d < 0 then 8 else if (nd : Int) ≤ d then 8 else if xU ds d = 5 then 6 else if p ≠ 1 ∧ p ≠ 2 then 10 else if q < 0 then 5 else if 65536 < q then 5 else 0) := by unfold Hid yJ; rw [HLD.out]
 have HB : Hid (Below w.heap.size w ((w.alloc (.cells #[.slice An nn cn, .slice Ad nd cd] 30)).alloc (.cells #[.int .i64 d, .int .i64 p, .int .i64 q] 46))) := ((Below.refl _ _).alloc lR _).alloc (by simp) _
 have HD2 := iD ((hd.alloc hBd (.cells #[.slice An nn cn, .slice Ad nd cd] 30)).alloc (by simp; omega) (.cells #[.int .i64 d, .int .i64 p, .int .i64 q] 46))
 have hdm := hd.le
 clear hd
 by_cases h1 : d < 0
 ·have q1 : decide (d < 0) = true := by simpa using h1
  go_enter Tryz.func69, Tryz.ntmps69
  go_wp2_with fail
  go_ret
  exact ⟨zI (by rw [HE.out, if_pos h1]), HB.out⟩
 have q1 : decide (d < 0) = false := by simpa using h1
 by_cases h2 : (nd : Int) ≤ d
 ·have q2 : decide ((nd : Int) ≤ d) = true := by simpa using h2
  go_enter Tryz.func69, Tryz.ntmps69
  go_wp2_with fail
  go_ret
  exact ⟨zI (by rw [HE.out, if_neg (by omega), if_pos h2]), HB.out⟩
 obtain ⟨i, rfl⟩ := Int.eq_ofNat_of_zero_le (show 0 ≤ d by omega)
 have hin : i < nd := by omega
 have q2 : decide (nd ≤ i) = false := by simp; omega
 obtain ⟨b0, off, x, rfl, hb0, hx, hc⟩ := HD2.out.at (fun _ => rfl) (by decide) hin
 have HX := iD (xz hx)
 obtain ⟨nm, kd, xa, xb, co⟩ := x
 have c1 := hc 1 _ rfl
 clear hc hx
 by_cases h3 : kd = 5
 ·subst h3
  go_enter Tryz.func69, Tryz.ntmps69
  go_wp2_with fail
  go_ret
  exact ⟨zI (by rw [HE.out, if_neg (by omega), if_neg (by omega), HX.out, if_pos rfl]), HB.out⟩
 have q3 : (kd == 5) = false := by simpa using h3
 have HR : Hid (yJ ds ⟨(i : Int), p, q⟩ = if p ≠ 1 ∧ p ≠ 2 then 10 else if q < 0 then 5 else if 65536 < q then 5 else 0) := by unfold Hid; rw [HE.out, if_neg (by omega), if_neg (by omega), HX.out, if_neg h3]
 clear h1 h2 h3 HE HX
 by_cases h4 : p = 1 ∨ p = 2
 ·have HR2 : Hid (yJ ds ⟨(i : Int), p, q⟩ = if q < 0 then 5 else if 65536 < q then 5 else 0) := by unfold Hid; rw [HR.out, if_neg (by omega)]
  clear HR
  by_cases h5 : q < 0
  ·have q5 : decide (q < 0) = true := by simpa using h5
   rcases h4 with rfl | rfl
   all_goals
    go_enter Tryz.func69, Tryz.ntmps69
    go_wp2_with fail
    go_ret
    exact ⟨zI (by rw [HR2.out, if_pos h5]), HB.out⟩
  have q5 : decide (q < 0) = false := by simpa using h5
  by_cases h6 : 65536 < q
  ·have q6 : decide (65536 < q) = true := by simpa using h6
   rcases h4 with rfl | rfl
   all_goals
    go_enter Tryz.func69, Tryz.ntmps69
    go_wp2_with fail
    go_ret
    exact ⟨zI (by rw [HR2.out, if_neg (by omega), if_pos h6]), HB.out⟩
  have q6 : decide (65536 < q) = false := by simpa using h6
  rcases h4 with rfl | rfl
  all_goals
   go_enter Tryz.func69, Tryz.ntmps69
   go_wp2_with fail
   go_ret
   exact ⟨zI (by rw [HR2.out, if_neg (by omega), if_neg (by omega)]), HB.out⟩
 ·have p1 : (p != 1) = true := by simp; omega
  have p2 : (p != 2) = true := by simp; omega
  go_enter Tryz.func69, Tryz.ntmps69
  go_wp2_with fail
  go_ret
  exact ⟨zI (by rw [HR.out, if_pos (by omega)]), HB.out⟩
theorem qG (a b : Lk) (w : World) : Calls Tryz.prog 70 #[.agg #[.int .i64 a.dev, .int .i64 a.pos, .int .i64 a.key], .agg #[.int .i64 b.dev, .int .i64 b.pos, .int .i64 b.key]] w fun e w' => e = .returned (.bool (yM a b)) ∧ Below w.heap.size w w' := by
 obtain ⟨d, p, q⟩ := a
 obtain ⟨d2, p2, q2⟩ := b
 have HB : Hid (Below w.heap.size w ((w.alloc (.cells #[.int .i64 d, .int .i64 p, .int .i64 q] 46)).alloc (.cells #[.int .i64 d2, .int .i64 p2, .int .i64 q2] 46))) := ((Below.refl _ _).alloc lR _).alloc (by simp) _
 by_cases h1 : d < d2
 ·have e1 : decide (d < d2) = true := by simpa using h1
  have HR : Hid (yM ⟨d, p, q⟩ ⟨d2, p2, q2⟩ = true) := (u7 _ _).2 (.inl h1)
  go_enter Tryz.func70, Tryz.ntmps70
  go_wp2_with fail
  go_ret
  exact ⟨zP HR.out.symm, HB.out⟩
 have e1 : decide (d < d2) = false := by simpa using h1
 by_cases h2 : d = d2
 ·subst h2
  have HR : Hid (yM ⟨d, p, q⟩ ⟨d, p2, q2⟩ = decide (q < q2)) := by unfold Hid yM; simp
  go_enter Tryz.func70, Tryz.ntmps70
  go_wp2_with fail
  go_ret
  exact ⟨zP HR.out.symm, HB.out⟩
 ·have e2 : (d == d2) = false := by simpa using h2
  have HR : Hid (yM ⟨d, p, q⟩ ⟨d2, p2, q2⟩ = false) := by unfold Hid yM; simp; omega
  go_enter Tryz.func70, Tryz.ntmps70
  go_wp2_with fail
  go_ret
  exact ⟨zP HR.out.symm, HB.out⟩
def uD (ls : List Lk) (d : Int) : Ending := .returned (.tuple #[.int .i64 ((yw ls d).getD 0), .bool (yw ls d).isSome])
theorem kM {ls : List Lk} {d : Int} : ∀ {i : Nat}, (∀ x ∈ ls.take i, x.dev ≠ d) → yw ls d = yw (ls.drop i) d := by
 intro i
 induction i generalizing ls with
 | zero => intro _; rfl
 | succ i ih =>
  intro h
  cases ls with
  | nil => rfl
  | cons x l =>
   rw [yw, if_neg (h x (by simp)), List.drop_succ_cons]
   exact ih fun y hy => h y (by simp [hy])
theorem mZ {ls : List Lk} {d : Int} {i : Nat} {x : Lk} (h : ∀ x ∈ ls.take i, x.dev ≠ d) (hx : ls[i]? = some x) (hd : x.dev = d) : yw ls d = some x.pos := by
 rw [kM h]
 have hi := (List.getElem?_eq_some_iff.1 hx).1
 rw [List.drop_eq_getElem_cons hi, yw]
 have : ls[i] = x := by have := List.getElem?_eq_some_iff.1 hx; exact this.2
 rw [this, if_pos hd]
def iE (w : World) (ls : List Lk) (d : Int) (n gk : Nat) (iv : Value) (wr : World) : Prop := ∃ i : Nat, iv = .int .i64 i ∧ i ≤ n ∧ gk = n - i ∧ Hid (∀ x ∈ ls.take i, x.dev ≠ d) ∧ Hid (Below w.heap.size w wr)
theorem yY (A : Option Addr) (n c B : Nat) (ls : List Lk) (d : Int) (w : World) (hs : Sl w B 3 A n c (ls.flatMap Lk.cells)) (hB : B ≤ w.heap.size) :
 Calls Tryz.prog 37 #[.slice A n c, .int .i64 d] w fun e w' => e = uD ls d ∧ Below w.heap.size w w' := by
 have HLN := iD (hs.len (fun _ => rfl) (by decide)); have HS := iD hs
 have hle := hs.le
 clear hs
 go_enter Tryz.func37, Tryz.ntmps37
 go_wp2_with fail
 go_loopg [6] n (iE w ls d n)
 case atStart => exact ⟨0, rfl, Nat.zero_le _, rfl, (fun x hx => by simp at hx), Below.refl _ _⟩
 case round =>
  obtain ⟨i, rfl, hi, rfl, hno, hbl⟩ := hrel
  by_cases hlt : i < n
  ·obtain ⟨b, off, d1, p1, q1, rfl, hb, hx, c0, c1, c2⟩ := (HS.out.below hbl.out hB).lock hlt
   have HX := iD hx
   clear hx c2
   by_cases hd : d1 = d
   ·subst hd
    have HR : Hid (yw ls d1 = some p1) := mZ hno.out HX.out rfl
    have qq : (d1 == d1) = true := by simp
    go_wp2_with fail
    go_ret2
    exact ⟨by unfold uD; rw [HR.out]; rfl, hbl.out⟩
   ·have qq : (d1 == d) = false := by simpa using hd
    have HN : Hid (∀ x ∈ ls.take (i + 1), x.dev ≠ d) := fun x hx => by
     rw [zt HX.out] at hx
     rcases List.mem_append.1 hx with h | h
     ·exact hno.out x h
     ·rw [List.mem_singleton.1 h]; exact hd
    clear hd
    go_wp2_with fail
    go_roundg (n - (i + 1))
    case rel => exact ⟨i + 1, by go_num, by omega, rfl, HN, hbl⟩
    case measure => omega
  ·obtain rfl : i = n := by omega
   have hii : decide (i < i) = false := by simp
   have HR : Hid (yw ls d = none) := by
    have := hno.out
    rw [List.take_of_length_le (by rw [HLN.out]; exact Nat.le_refl _)] at this
    exact vh.2 this
   go_wp2_with fail
   go_ret2
   exact ⟨by unfold uD; rw [HR.out]; rfl, hbl.out⟩
end Go.Proofs.YtepicjpdhpojnaaGreatDoor
