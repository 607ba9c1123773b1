import Derived.Test.YtkkobemhbicjgaaGreatDoorQ30
import Derived.Test.YtkkobemhbicjgaaGreatDoorQ08
namespace Go.Proofs.YtkkobemhbicjgaaGreatDoor
open Go.RowKit
open Classical in
noncomputable def mayF (ns : List Nd) (ds : List Dv) (m : List Int) (d p co : Int) (ls : List Lk) (pr : List Int) : List Int :=
 match ds[d.toNat]? with
 | some x => [1, 2, 3, 4, 5, 6, 7].filter fun h => decide (MayP ns.length ns ds (allOf m) (m.getD d.toNat 0) d.toNat p co ls pr x h)
 | none => []
theorem mayF_mem {ns : List Nd} {ds : List Dv} {m : List Int} {d p co : Int} {ls : List Lk} {pr : List Int} {x : Dv} (hx : ds[d.toNat]? = some x) (h : Int) :
 h ∈ mayF ns ds m d p co ls pr ↔ MayP ns.length ns ds (allOf m) (m.getD d.toNat 0) d.toNat p co ls pr x h := by
 unfold mayF
 rw [hx]
 simp only [List.mem_filter, decide_eq_true_eq]
 constructor
 ·exact fun h => h.2
 ·intro hp
  refine ⟨?_, hp⟩
  obtain ⟨s, -, h1, -⟩ := hp
  have := hzAt_range h1
  simp only [List.mem_cons, List.not_mem_nil, or_false]
  omega
theorem mayF_set {ns : List Nd} {ds : List Dv} {m : List Int} {d p co : Int} {ls : List Lk} {pr : List Int} {x : Dv} (hx : ds[d.toNat]? = some x) : MayL ns ds m d p co ls pr x (mayF ns ds m d p co ls pr) := by
 refine ⟨?_, ?_, fun h => mayF_mem hx h⟩
 ·unfold mayF; rw [hx]; exact List.Nodup.sublist List.filter_sublist (by decide)
 ·unfold mayF; rw [hx]; exact List.Pairwise.sublist List.filter_sublist (by decide)
theorem mayF_is {ns : List Nd} {ds : List Dv} {m : List Int} {d p co : Int} {ls : List Lk} {pr : List Int} {x : Dv} {out : List Int} (hx : ds[d.toNat]? = some x) (h : MayL ns ds m d p co ls pr x out) : out = mayF ns ds m d p co ls pr :=
 SetL.unique h (mayF_set hx)
theorem mayF_len (ns : List Nd) (ds : List Dv) (m : List Int) (d p co : Int) (ls : List Lk) (pr : List Int) : (mayF ns ds m d p co ls pr).length ≤ 7 := by
 unfold mayF
 split
 ·exact Nat.le_trans (List.length_filter_le _ _) (by decide)
 ·exact Nat.zero_le _
def misB (m p : Int) : Bool := !decide (m = p) && !decide (m = 3)
def unsL (m p : Int) : List Int := if m = p then [] else [8]
structure Co where
 e : Int
 h : List Int
 t : Sm
 ov : Bool
noncomputable def chTo (ns : List Nd) (ds : List Dv) (co : Int) (t : Sm) (x : Sp) : Co :=
 if x.kind = 1 ∨ x.kind = 2 then ⟨cErr t.s, mayF ns ds t.s x.dev x.kind co t.ls t.pr, ⟨t.s.set x.dev.toNat x.kind, t.ls, if clsB ds x.kind x.dev then [] else t.pr⟩, false⟩
 else if x.kind = 5 then (if lvB (colsOf ns.length ds (fillL t.s 2)) x.node then ⟨0, [8], t, false⟩ else ⟨0, [], ⟨t.s, t.ls, provL t.pr x.node⟩, false⟩)
 else if x.kind = 4 then (if (lkdTo ns ds t.ls x).2 then ⟨0, [], ⟨t.s, (lkdTo ns ds t.ls x).1, t.pr⟩, false⟩ else ⟨0, [4], t, false⟩)
 else if misB (t.s.getD x.dev.toNat 0) x.pos then ⟨0, [8], t, true⟩
 else if x.kind = 6 then ⟨0, unsL (t.s.getD x.dev.toNat 0) x.pos, ⟨t.s.set x.dev.toNat x.pos, t.ls, t.pr⟩, false⟩
 else if (lkdTo ns ds t.ls x).2 then ⟨0, unsL (t.s.getD x.dev.toNat 0) x.pos, ⟨t.s.set x.dev.toNat x.pos, (lkdTo ns ds t.ls x).1, t.pr⟩, false⟩
 else ⟨0, 4 :: unsL (t.s.getD x.dev.toNat 0) x.pos, ⟨t.s.set x.dev.toNat x.pos, t.ls, t.pr⟩, false⟩
section
variable {ns : List Nd} {ds : List Dv} {co : Int} {t : Sm} {x : Sp}
theorem chToO (hk : x.kind = 1 ∨ x.kind = 2) : chTo ns ds co t x = ⟨cErr t.s, mayF ns ds t.s x.dev x.kind co t.ls t.pr, ⟨t.s.set x.dev.toNat x.kind, t.ls, if clsB ds x.kind x.dev then [] else t.pr⟩, false⟩ := by unfold chTo; rw [if_pos hk]
theorem chTo5 (hk : x.kind = 5) : chTo ns ds co t x = if lvB (colsOf ns.length ds (fillL t.s 2)) x.node then ⟨0, [8], t, false⟩ else ⟨0, [], ⟨t.s, t.ls, provL t.pr x.node⟩, false⟩ := by
 unfold chTo; rw [if_neg (by omega), if_pos hk]
theorem chTo4 (hk : x.kind = 4) : chTo ns ds co t x = if (lkdTo ns ds t.ls x).2 then ⟨0, [], ⟨t.s, (lkdTo ns ds t.ls x).1, t.pr⟩, false⟩ else ⟨0, [4], t, false⟩ := by
 unfold chTo; rw [if_neg (by omega), if_neg (by omega), if_pos hk]
theorem chTo36 (hk : x.kind = 3 ∨ x.kind = 6) : chTo ns ds co t x = if misB (t.s.getD x.dev.toNat 0) x.pos then ⟨0, [8], t, true⟩
 else if x.kind = 6 then ⟨0, unsL (t.s.getD x.dev.toNat 0) x.pos, ⟨t.s.set x.dev.toNat x.pos, t.ls, t.pr⟩, false⟩
 else if (lkdTo ns ds t.ls x).2 then ⟨0, unsL (t.s.getD x.dev.toNat 0) x.pos, ⟨t.s.set x.dev.toNat x.pos, (lkdTo ns ds t.ls x).1, t.pr⟩, false⟩
 else ⟨0, 4 :: unsL (t.s.getD x.dev.toNat 0) x.pos, ⟨t.s.set x.dev.toNat x.pos, t.ls, t.pr⟩, false⟩ := by
 unfold chTo; rw [if_neg (by omega), if_neg (by omega), if_neg (by omega)]
end
structure Cr where
 e : Int
 o : List Fn
 t : Sm
noncomputable def chRun (ns : List Nd) (ds : List Dv) (co : Int) : Nat → List Fn → Sm → List Sp → Cr
 | _, out, t, [] => ⟨0, out, t⟩
 | i, out, t, x :: r =>
  if (chTo ns ds co t x).e ≠ 0 then ⟨(chTo ns ds co t x).e, [], ⟨[], [], []⟩⟩
  else if (chTo ns ds co t x).ov then ⟨0, out ++ fnsOf i (chTo ns ds co t x).h, (chTo ns ds co t x).t⟩
  else chRun ns ds co (i + 1) (out ++ fnsOf i (chTo ns ds co t x).h) (chTo ns ds co t x).t r
def chErr (ns : List Nd) (ds : List Dv) (m : List Int) (co : Int) (ls : List Lk) (pr : List Int) (nm : ByteArray) (xs : List Sp) : Int :=
 if maskErr ns ds m ≠ 0 then maskErr ns ds m else if grErr ns ds co ls pr ≠ 0 then grErr ns ds co ls pr else pgErr ns ds nm xs
structure ChOk (ns : List Nd) (ds : List Dv) (t : Sm) : Prop where
 s : maskErr ns ds t.s = 0
 l : locksErr ns ds t.ls = 0
 p : risL ns.length (-1) t.pr = true
theorem chErr_ok {ns : List Nd} {ds : List Dv} {m : List Int} {co : Int} {ls : List Lk} {pr : List Int} {nm : ByteArray} {xs : List Sp} (h : chErr ns ds m co ls pr nm xs = 0) :
 ChOk ns ds ⟨m, ls, pr⟩ ∧ (0 ≤ co ∧ co ≤ 7) ∧ xs.length ≤ 64 ∧ spsErr ns.length ds.length xs = 0 := by
 unfold chErr at h
 split at h
 ·next h1 => exact absurd h h1
 next h1 =>
 split at h
 ·next h2 => exact absurd h h2
 next h2 =>
 have h2 : grErr ns ds co ls pr = 0 := by simpa using h2
 unfold grErr at h2
 split at h2
 ·cases h2
 next g1 =>
 split at h2
 ·next g2 => exact absurd h2 g2
 next g2 =>
 split at h2
 ·cases h2
 next g3 =>
 unfold pgErr at h
 split at h
 ·next h3 => exact absurd h h3
 split at h
 ·cases h
 split at h
 ·cases h
 next h5 => exact ⟨⟨by simpa using h1, by simpa using g2, by simpa using g3⟩, by omega, by omega, h⟩
theorem maskErr_set {ns : List Nd} {ds : List Dv} {s : List Int} {i : Nat} {v : Int} (h : maskErr ns ds s = 0) (hv : v = 1 ∨ v = 2) : maskErr ns ds (s.set i v) = 0 := by
 unfold maskErr at h ⊢
 split at h
 ·next h1 => exact absurd h h1
 next h1 =>
 rw [if_neg h1]
 split at h
 ·cases h
 next h2 =>
 rw [if_neg (by simpa using h2)]
 split at h
 ·next h3 =>
  rw [if_pos]
  intro p hp
  rcases List.mem_or_eq_of_mem_set hp with hp | rfl
  ·exact h3 p hp
  ·unfold maskB; rcases hv with rfl | rfl <;> simp
 ·cases h
theorem lkdTo_ok {ns : List Nd} {ds : List Dv} {ls : List Lk} (x : Sp) (hc : checkN ns ds = 0) (h : locksErr ns ds ls = 0) : locksErr ns ds (lkdTo ns ds ls x).1 = 0 := by
 unfold lkdTo
 split
 ·split
  ·exact h
  ·next h0 => exact sm_locks hc (add_zero (by simpa using h0))
 ·split
  ·exact h
  ·exact sm_locks hc (good_sub (locks_good h) (List.eraseIdx_sublist _ _))
theorem chTo_ok {ns : List Nd} {ds : List Dv} {co : Int} {t : Sm} {x : Sp} (h : ChOk ns ds t) (hx : spErr ns.length ds.length x = 0) : ChOk ns ds (chTo ns ds co t x).t := by
 obtain ⟨h1, h2, h3, h4, h5⟩ := spErr_ok hx
 have hc := (maskErr_net h.s).1
 unfold chTo
 split
 ·next hk => exact ⟨maskErr_set h.s hk, h.l, by dsimp only; split <;> first | rfl | exact h.p⟩
 next k12 =>
 split
 ·next hk =>
  split
  ·exact h
  ·exact ⟨h.s, h.l, risL_prov h.p (h3 hk).1 (h3 hk).2⟩
 next k5 =>
 split
 ·split
  ·exact ⟨h.s, lkdTo_ok x hc h.l, h.p⟩
  ·exact h
 next k4 =>
 have hp := h4 (by omega)
 split
 ·exact h
 split
 ·exact ⟨maskErr_set h.s hp, h.l, h.p⟩
 split
 ·exact ⟨maskErr_set h.s hp, lkdTo_ok x hc h.l, h.p⟩
 ·exact ⟨maskErr_set h.s hp, h.l, h.p⟩
theorem cErr_ok {ns : List Nd} {ds : List Dv} {m : List Int} (h : maskErr ns ds m = 0) (hd : ds.length ≤ 8) : cErr m = 0 := by
 obtain ⟨h1, h2, h3⟩ := maskErr_net h
 unfold cErr
 rw [if_pos (by simpa [List.all_eq_true] using h3), if_neg]
 have := cntN_le m m.length
 omega
theorem mask_at {ns : List Nd} {ds : List Dv} {m : List Int} (hm : maskErr ns ds m = 0) {i : Nat} (hi : i < m.length) : m[i]? = some 1 ∨ m[i]? = some 2 ∨ m[i]? = some 3 := by
 have h := (maskErr_net hm).2.2 _ (List.getElem_mem hi)
 unfold maskB at h
 simp only [Bool.and_eq_true, decide_eq_true_eq] at h
 rw [List.getElem?_eq_getElem hi]
 simp only [Option.some.injEq]
 omega
theorem getD_at {s : List Int} {i : Nat} {y : Int} (h : s[i]? = some y) : s.getD i 0 = y := by rw [List.getD_eq_getElem?_getD, h]; rfl
theorem set_id {s : List Int} {i : Nat} {y : Int} (h : s[i]? = some y) : s.set i y = s := by
 refine List.ext_getElem? fun k => ?_
 rw [List.getElem?_set]
 by_cases e : i = k
 ·subst e; rw [if_pos rfl, h, if_pos (List.getElem?_eq_some_iff.1 h).1]
 ·rw [if_neg e]
theorem chRun_round {ns : List Nd} {ds : List Dv} {co : Int} {xs : List Sp} {i : Nat} {out : List Fn} {t : Sm} {x : Sp} (hx : xs[i]? = some x) (he : (chTo ns ds co t x).e = 0) (ho : (chTo ns ds co t x).ov = false) :
 chRun ns ds co i out t (xs.drop i) = chRun ns ds co (i + 1) (out ++ fnsOf i (chTo ns ds co t x).h) (chTo ns ds co t x).t (xs.drop (i + 1)) := by
 obtain ⟨hi, rfl⟩ := List.getElem?_eq_some_iff.mp hx
 rw [List.drop_eq_getElem_cons hi, chRun, if_neg (by simp [he]), if_neg (by simp [ho])]
theorem chRun_err {ns : List Nd} {ds : List Dv} {co : Int} {xs : List Sp} {i : Nat} {out : List Fn} {t : Sm} {x : Sp} (hx : xs[i]? = some x) (he : (chTo ns ds co t x).e ≠ 0) :
 chRun ns ds co i out t (xs.drop i) = ⟨(chTo ns ds co t x).e, [], ⟨[], [], []⟩⟩ := by
 obtain ⟨hi, rfl⟩ := List.getElem?_eq_some_iff.mp hx
 rw [List.drop_eq_getElem_cons hi, chRun, if_pos he]
theorem chRun_stop {ns : List Nd} {ds : List Dv} {co : Int} {xs : List Sp} {i : Nat} {out : List Fn} {t : Sm} {x : Sp} (hx : xs[i]? = some x) (he : (chTo ns ds co t x).e = 0) (ho : (chTo ns ds co t x).ov = true) :
 chRun ns ds co i out t (xs.drop i) = ⟨0, out ++ fnsOf i (chTo ns ds co t x).h, (chTo ns ds co t x).t⟩ := by
 obtain ⟨hi, rfl⟩ := List.getElem?_eq_some_iff.mp hx
 rw [List.drop_eq_getElem_cons hi, chRun, if_neg (by simp [he]), if_pos ho]
theorem chRun_end {ns : List Nd} {ds : List Dv} {co : Int} {xs : List Sp} {i : Nat} {out : List Fn} {t : Sm} (hx : xs.length ≤ i) : chRun ns ds co i out t (xs.drop i) = ⟨0, out, t⟩ := by
 rw [List.drop_eq_nil_of_le hx, chRun]
end Go.Proofs.YtkkobemhbicjgaaGreatDoor
namespace Go.Proofs.YtkkobemhbicjgaaGreatDoor
open Go.RowKit
section
variable (ns : List Nd) (ds : List Dv) (co : Int) (t : Sm) (d v p q : Int)
theorem lkd_no {ls : List Lk} {x : Sp} (h : (lkdTo ns ds ls x).2 = false) : (lkdTo ns ds ls x).1 = ls := by
 unfold lkdTo at h ⊢
 split at h
 ·next h1 =>
  rw [if_pos h1]
  split at h
  ·next h2 => rw [if_pos h2]
  ·cases h
 ·next h1 =>
  rw [if_neg h1]
  split at h
  ·rfl
  ·cases h
end
structure SoAt (w : World) (A1 A2 Al Ap : Option Addr) (n1 c1 n2 c2 nl cl np cp : Nat) (o : So) : Prop where
 h : Sl w w.heap.size 1 A1 n1 c1 (intsV o.h)
 s : Sl w w.heap.size 1 A2 n2 c2 (intsV o.t.s)
 l : Sl w w.heap.size 3 Al nl cl (o.t.ls.flatMap Lk.cells)
 p : Sl w w.heap.size 1 Ap np cp (intsV o.t.pr)
def Fre (B : Nat) (A A' : Option Addr) (n n' : Nat) : Prop := A' = A ∧ n' = n ∨ ∀ b off, A' = some ⟨b, off, none⟩ → B ≤ b
theorem sl_blk1 {z : World} {bq : Nat} {v : Int} (hv : Blk z bq 3 #[.int .i64 v]) : Sl z z.heap.size 1 (some ⟨bq, 0, none⟩) 1 1 (intsV [v]) :=
 ⟨rfl, Nat.le_refl _, by decide, (fun e => by cases e), fun _ => ⟨bq, 0, rfl, hv.lt, fun j u hu => by rw [Nat.zero_add, hv.cell]; simpa [intsV] using hu⟩⟩
theorem blk_far3 {w : World} {g x : Nat} {t : TypeId} {cs : Array Value} {a b d : Value} (h : Blk w g t cs) (hg : g ≠ x) : Blk (((w.setCell ⟨x, 0, none⟩ a).setCell ⟨x, 1, none⟩ b).setCell ⟨x, 2, none⟩ d) g t cs := ((h.far (p := ⟨x, 0, none⟩) hg a).far (p := ⟨x, 1, none⟩) hg b).far (p := ⟨x, 2, none⟩) hg d
theorem Bst.cells {w wr : World} {An Ad Al Ap : Option Addr} {nn cn nd cd nl cl np cp : Nat} {co k d no p q : Int} (h : Bst w #[.slice An nn cn, .slice Ad nd cd] #[.int .i64 co, .slice Al nl cl, .slice Ap np cp] #[.int .i64 k, .int .i64 d, .int .i64 no, .int .i64 p, .int .i64 q] wr) :
 (wr.cell? ⟨w.heap.size, 0, none⟩ = some (.slice An nn cn) ∧ wr.cell? ⟨w.heap.size, 1, none⟩ = some (.slice Ad nd cd)) ∧ (wr.cell? ⟨w.heap.size + 1, 0, none⟩ = some (.int .i64 co) ∧ wr.cell? ⟨w.heap.size + 1, 1, none⟩ = some (.slice Al nl cl) ∧ wr.cell? ⟨w.heap.size + 1, 2, none⟩ = some (.slice Ap np cp)) ∧ wr.cell? ⟨w.heap.size + 2, 0, none⟩ = some (.int .i64 k) ∧ wr.cell? ⟨w.heap.size + 2, 1, none⟩ = some (.int .i64 d) ∧ wr.cell? ⟨w.heap.size + 2, 2, none⟩ = some (.int .i64 no) ∧ wr.cell? ⟨w.heap.size + 2, 3, none⟩ = some (.int .i64 p) ∧ wr.cell? ⟨w.heap.size + 2, 4, none⟩ = some (.int .i64 q) :=
 ⟨⟨h.b0.cell 0, h.b0.cell 1⟩, ⟨h.b1.cell 0, h.b1.cell 1, h.b1.cell 2⟩, h.b2.cell 0, h.b2.cell 1, h.b2.cell 2, h.b2.cell 3, h.b2.cell 4⟩
end Go.Proofs.YtkkobemhbicjgaaGreatDoor
