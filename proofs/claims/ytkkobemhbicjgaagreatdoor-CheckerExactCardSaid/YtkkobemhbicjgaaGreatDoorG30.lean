import Derived.Test.YtkkobemhbicjgaaGreatDoorG29
import Derived.Test.YtkkobemhbicjgaaGreatDoorG08
set_option maxRecDepth 100000
set_option maxHeartbeats 16000000
namespace Go.Proofs.YtkkobemhbicjgaaGreatDoor
open Go.RowKit
open Classical in
noncomputable def mayF (ns : List Nd) (ds : List Dv) (m : List Int) (d p co : Int) (ls : List Lk) (pr : List Int) : List Int :=
 match ds[d.toNat]? with
 | some x => [1, 2, 3, 4, 5, 6, 7].filter fun h => decide (MayP ns.length ns ds (allOf m) (m.getD d.toNat 0) d.toNat p co ls pr x h)
 | none => []
theorem mayF_mem {ns : List Nd} {ds : List Dv} {m : List Int} {d p co : Int} {ls : List Lk} {pr : List Int} {x : Dv} (hx : ds[d.toNat]? = some x) (h : Int) :
 h ∈ mayF ns ds m d p co ls pr ↔ MayP ns.length ns ds (allOf m) (m.getD d.toNat 0) d.toNat p co ls pr x h := by
 unfold mayF
 rw [hx]
 simp only [List.mem_filter, decide_eq_true_eq]
 constructor
 ·exact fun h => h.2
 ·intro hp
  refine ⟨?_, hp⟩
  obtain ⟨s, -, h1, -⟩ := hp
  have := hzAt_range h1
  simp only [List.mem_cons, List.not_mem_nil, or_false]
  omega
theorem mayF_set {ns : List Nd} {ds : List Dv} {m : List Int} {d p co : Int} {ls : List Lk} {pr : List Int} {x : Dv} (hx : ds[d.toNat]? = some x) : MayL ns ds m d p co ls pr x (mayF ns ds m d p co ls pr) := by
 refine ⟨?_, ?_, fun h => mayF_mem hx h⟩
 ·unfold mayF; rw [hx]; exact List.Nodup.sublist List.filter_sublist (by decide)
 ·unfold mayF; rw [hx]; exact List.Pairwise.sublist List.filter_sublist (by decide)
theorem mayF_is {ns : List Nd} {ds : List Dv} {m : List Int} {d p co : Int} {ls : List Lk} {pr : List Int} {x : Dv} {out : List Int} (hx : ds[d.toNat]? = some x) (h : MayL ns ds m d p co ls pr x out) : out = mayF ns ds m d p co ls pr :=
 SetL.unique h (mayF_set hx)
theorem mayF_len (ns : List Nd) (ds : List Dv) (m : List Int) (d p co : Int) (ls : List Lk) (pr : List Int) : (mayF ns ds m d p co ls pr).length ≤ 7 := by
 unfold mayF
 split
 ·exact Nat.le_trans (List.length_filter_le _ _) (by decide)
 ·exact Nat.zero_le _
def misB (m p : Int) : Bool := !decide (m = p) && !decide (m = 3)
def unsL (m p : Int) : List Int := if m = p then [] else [8]
structure Co where
 e : Int
 h : List Int
 t : Sm
 ov : Bool
noncomputable def chTo (ns : List Nd) (ds : List Dv) (co : Int) (t : Sm) (x : Sp) : Co :=
 if x.kind = 1 ∨ x.kind = 2 then ⟨cErr t.s, mayF ns ds t.s x.dev x.kind co t.ls t.pr, ⟨t.s.set x.dev.toNat x.kind, t.ls, if clsB ds x.kind x.dev then [] else t.pr⟩, false⟩
 else if x.kind = 5 then (if lvB (colsOf ns.length ds (fillL t.s 2)) x.node then ⟨0, [8], t, false⟩ else ⟨0, [], ⟨t.s, t.ls, provL t.pr x.node⟩, false⟩)
 else if x.kind = 4 then (if (lkdTo ns ds t.ls x).2 then ⟨0, [], ⟨t.s, (lkdTo ns ds t.ls x).1, t.pr⟩, false⟩ else ⟨0, [4], t, false⟩)
 else if misB (t.s.getD x.dev.toNat 0) x.pos then ⟨0, [8], t, true⟩
 else if x.kind = 6 then ⟨0, unsL (t.s.getD x.dev.toNat 0) x.pos, ⟨t.s.set x.dev.toNat x.pos, t.ls, t.pr⟩, false⟩
 else if (lkdTo ns ds t.ls x).2 then ⟨0, unsL (t.s.getD x.dev.toNat 0) x.pos, ⟨t.s.set x.dev.toNat x.pos, (lkdTo ns ds t.ls x).1, t.pr⟩, false⟩
 else ⟨0, 4 :: unsL (t.s.getD x.dev.toNat 0) x.pos, ⟨t.s.set x.dev.toNat x.pos, t.ls, t.pr⟩, false⟩
section
variable {ns : List Nd} {ds : List Dv} {co : Int} {t : Sm} {x : Sp}
theorem chToO (hk : x.kind = 1 ∨ x.kind = 2) : chTo ns ds co t x = ⟨cErr t.s, mayF ns ds t.s x.dev x.kind co t.ls t.pr, ⟨t.s.set x.dev.toNat x.kind, t.ls, if clsB ds x.kind x.dev then [] else t.pr⟩, false⟩ := by unfold chTo; rw [if_pos hk]
theorem chTo5 (hk : x.kind = 5) : chTo ns ds co t x = if lvB (colsOf ns.length ds (fillL t.s 2)) x.node then ⟨0, [8], t, false⟩ else ⟨0, [], ⟨t.s, t.ls, provL t.pr x.node⟩, false⟩ := by
 unfold chTo; rw [if_neg (by omega), if_pos hk]
theorem chTo4 (hk : x.kind = 4) : chTo ns ds co t x = if (lkdTo ns ds t.ls x).2 then ⟨0, [], ⟨t.s, (lkdTo ns ds t.ls x).1, t.pr⟩, false⟩ else ⟨0, [4], t, false⟩ := by
 unfold chTo; rw [if_neg (by omega), if_neg (by omega), if_pos hk]
theorem chTo36 (hk : x.kind = 3 ∨ x.kind = 6) : chTo ns ds co t x = if misB (t.s.getD x.dev.toNat 0) x.pos then ⟨0, [8], t, true⟩
 else if x.kind = 6 then ⟨0, unsL (t.s.getD x.dev.toNat 0) x.pos, ⟨t.s.set x.dev.toNat x.pos, t.ls, t.pr⟩, false⟩
 else if (lkdTo ns ds t.ls x).2 then ⟨0, unsL (t.s.getD x.dev.toNat 0) x.pos, ⟨t.s.set x.dev.toNat x.pos, (lkdTo ns ds t.ls x).1, t.pr⟩, false⟩
 else ⟨0, 4 :: unsL (t.s.getD x.dev.toNat 0) x.pos, ⟨t.s.set x.dev.toNat x.pos, t.ls, t.pr⟩, false⟩ := by
 unfold chTo; rw [if_neg (by omega), if_neg (by omega), if_neg (by omega)]
end
structure Cr where
 e : Int
 o : List Fn
 t : Sm
noncomputable def chRun (ns : List Nd) (ds : List Dv) (co : Int) : Nat → List Fn → Sm → List Sp → Cr
 | _, out, t, [] => ⟨0, out, t⟩
 | i, out, t, x :: r =>
  if (chTo ns ds co t x).e ≠ 0 then ⟨(chTo ns ds co t x).e, [], ⟨[], [], []⟩⟩
  else if (chTo ns ds co t x).ov then ⟨0, out ++ fnsOf i (chTo ns ds co t x).h, (chTo ns ds co t x).t⟩
  else chRun ns ds co (i + 1) (out ++ fnsOf i (chTo ns ds co t x).h) (chTo ns ds co t x).t r
def chErr (ns : List Nd) (ds : List Dv) (m : List Int) (co : Int) (ls : List Lk) (pr : List Int) (nm : ByteArray) (xs : List Sp) : Int :=
 if maskErr ns ds m ≠ 0 then maskErr ns ds m else if grErr ns ds co ls pr ≠ 0 then grErr ns ds co ls pr else pgErr ns ds nm xs
structure ChOk (ns : List Nd) (ds : List Dv) (t : Sm) : Prop where
 s : maskErr ns ds t.s = 0
 l : locksErr ns ds t.ls = 0
 p : risL ns.length (-1) t.pr = true
theorem chErr_ok {ns : List Nd} {ds : List Dv} {m : List Int} {co : Int} {ls : List Lk} {pr : List Int} {nm : ByteArray} {xs : List Sp} (h : chErr ns ds m co ls pr nm xs = 0) :
 ChOk ns ds ⟨m, ls, pr⟩ ∧ (0 ≤ co ∧ co ≤ 7) ∧ xs.length ≤ 64 ∧ spsErr ns.length ds.length xs = 0 := by
 unfold chErr at h
 split at h
 ·next h1 => exact absurd h h1
 next h1 =>
 split at h
 ·next h2 => exact absurd h h2
 next h2 =>
 have h2 : grErr ns ds co ls pr = 0 := by simpa using h2
 unfold grErr at h2
 split at h2
 ·cases h2
 next g1 =>
 split at h2
 ·next g2 => exact absurd h2 g2
 next g2 =>
 split at h2
 ·cases h2
 next g3 =>
 unfold pgErr at h
 split at h
 ·next h3 => exact absurd h h3
 split at h
 ·cases h
 split at h
 ·cases h
 next h5 => exact ⟨⟨by simpa using h1, by simpa using g2, by simpa using g3⟩, by omega, by omega, h⟩
theorem maskErr_set {ns : List Nd} {ds : List Dv} {s : List Int} {i : Nat} {v : Int} (h : maskErr ns ds s = 0) (hv : v = 1 ∨ v = 2) : maskErr ns ds (s.set i v) = 0 := by
 unfold maskErr at h ⊢
 split at h
 ·next h1 => exact absurd h h1
 next h1 =>
 rw [if_neg h1]
 split at h
 ·cases h
 next h2 =>
 rw [if_neg (by simpa using h2)]
 split at h
 ·next h3 =>
  rw [if_pos]
  intro p hp
  rcases List.mem_or_eq_of_mem_set hp with hp | rfl
  ·exact h3 p hp
  ·unfold maskB; rcases hv with rfl | rfl <;> simp
 ·cases h
theorem lkdTo_ok {ns : List Nd} {ds : List Dv} {ls : List Lk} (x : Sp) (hc : checkN ns ds = 0) (h : locksErr ns ds ls = 0) : locksErr ns ds (lkdTo ns ds ls x).1 = 0 := by
 unfold lkdTo
 split
 ·split
  ·exact h
  ·next h0 => exact sm_locks hc (add_zero (by simpa using h0))
 ·split
  ·exact h
  ·exact sm_locks hc (good_sub (locks_good h) (List.eraseIdx_sublist _ _))
theorem chTo_ok {ns : List Nd} {ds : List Dv} {co : Int} {t : Sm} {x : Sp} (h : ChOk ns ds t) (hx : spErr ns.length ds.length x = 0) : ChOk ns ds (chTo ns ds co t x).t := by
 obtain ⟨h1, h2, h3, h4, h5⟩ := spErr_ok hx
 have hc := (maskErr_net h.s).1
 unfold chTo
 split
 ·next hk => exact ⟨maskErr_set h.s hk, h.l, by dsimp only; split <;> first | rfl | exact h.p⟩
 next k12 =>
 split
 ·next hk =>
  split
  ·exact h
  ·exact ⟨h.s, h.l, risL_prov h.p (h3 hk).1 (h3 hk).2⟩
 next k5 =>
 split
 ·split
  ·exact ⟨h.s, lkdTo_ok x hc h.l, h.p⟩
  ·exact h
 next k4 =>
 have hp := h4 (by omega)
 split
 ·exact h
 split
 ·exact ⟨maskErr_set h.s hp, h.l, h.p⟩
 split
 ·exact ⟨maskErr_set h.s hp, lkdTo_ok x hc h.l, h.p⟩
 ·exact ⟨maskErr_set h.s hp, h.l, h.p⟩
theorem cErr_ok {ns : List Nd} {ds : List Dv} {m : List Int} (h : maskErr ns ds m = 0) (hd : ds.length ≤ 8) : cErr m = 0 := by
 obtain ⟨h1, h2, h3⟩ := maskErr_net h
 unfold cErr
 rw [if_pos (by simpa [List.all_eq_true] using h3), if_neg]
 have := cntN_le m m.length
 omega
theorem mask_at {ns : List Nd} {ds : List Dv} {m : List Int} (hm : maskErr ns ds m = 0) {i : Nat} (hi : i < m.length) : m[i]? = some 1 ∨ m[i]? = some 2 ∨ m[i]? = some 3 := by
 have h := (maskErr_net hm).2.2 _ (List.getElem_mem hi)
 unfold maskB at h
 simp only [Bool.and_eq_true, decide_eq_true_eq] at h
 rw [List.getElem?_eq_getElem hi]
 simp only [Option.some.injEq]
 omega
theorem getD_at {s : List Int} {i : Nat} {y : Int} (h : s[i]? = some y) : s.getD i 0 = y := by rw [List.getD_eq_getElem?_getD, h]; rfl
theorem set_at {s : List Int} {i : Nat} (hi : i < s.length) (q : Int) : (s.set i q).getD i 0 = q := by rw [List.getD_eq_getElem?_getD, List.getElem?_set, if_pos rfl, if_pos hi]; rfl
theorem set_id {s : List Int} {i : Nat} {y : Int} (h : s[i]? = some y) : s.set i y = s := by
 refine List.ext_getElem? fun k => ?_
 rw [List.getElem?_set]
 by_cases e : i = k
 ·subst e; rw [if_pos rfl, h, if_pos (List.getElem?_eq_some_iff.1 h).1]
 ·rw [if_neg e]
theorem chRun_round {ns : List Nd} {ds : List Dv} {co : Int} {xs : List Sp} {i : Nat} {out : List Fn} {t : Sm} {x : Sp} (hx : xs[i]? = some x) (he : (chTo ns ds co t x).e = 0) (ho : (chTo ns ds co t x).ov = false) :
 chRun ns ds co i out t (xs.drop i) = chRun ns ds co (i + 1) (out ++ fnsOf i (chTo ns ds co t x).h) (chTo ns ds co t x).t (xs.drop (i + 1)) := by
 obtain ⟨hi, rfl⟩ := List.getElem?_eq_some_iff.mp hx
 rw [List.drop_eq_getElem_cons hi, chRun, if_neg (by simp [he]), if_neg (by simp [ho])]
theorem chRun_err {ns : List Nd} {ds : List Dv} {co : Int} {xs : List Sp} {i : Nat} {out : List Fn} {t : Sm} {x : Sp} (hx : xs[i]? = some x) (he : (chTo ns ds co t x).e ≠ 0) :
 chRun ns ds co i out t (xs.drop i) = ⟨(chTo ns ds co t x).e, [], ⟨[], [], []⟩⟩ := by
 obtain ⟨hi, rfl⟩ := List.getElem?_eq_some_iff.mp hx
 rw [List.drop_eq_getElem_cons hi, chRun, if_pos he]
theorem chRun_stop {ns : List Nd} {ds : List Dv} {co : Int} {xs : List Sp} {i : Nat} {out : List Fn} {t : Sm} {x : Sp} (hx : xs[i]? = some x) (he : (chTo ns ds co t x).e = 0) (ho : (chTo ns ds co t x).ov = true) :
 chRun ns ds co i out t (xs.drop i) = ⟨0, out ++ fnsOf i (chTo ns ds co t x).h, (chTo ns ds co t x).t⟩ := by
 obtain ⟨hi, rfl⟩ := List.getElem?_eq_some_iff.mp hx
 rw [List.drop_eq_getElem_cons hi, chRun, if_neg (by simp [he]), if_pos ho]
theorem chRun_end {ns : List Nd} {ds : List Dv} {co : Int} {xs : List Sp} {i : Nat} {out : List Fn} {t : Sm} (hx : xs.length ≤ i) : chRun ns ds co i out t (xs.drop i) = ⟨0, out, t⟩ := by
 rw [List.drop_eq_nil_of_le hx, chRun]
end Go.Proofs.YtkkobemhbicjgaaGreatDoor
namespace Go.Proofs.YtkkobemhbicjgaaGreatDoor
open Go.RowKit
section
variable (ns : List Nd) (ds : List Dv) (co : Int) (t : Sm) (d v p q : Int)
theorem smToO {k : Int} (hk : k = 1 ∨ k = 2) : smTo ns ds co t ⟨k, d, v, p, q⟩ = ⟨hzD ns ds t.s d k co t.ls t.pr, ⟨t.s.set d.toNat k, t.ls, if clsB ds k d then [] else t.pr⟩, true⟩ := by unfold smTo; rw [if_pos hk]
theorem smTo5 : smTo ns ds co t ⟨5, d, v, p, q⟩ = if lvB (colsOf ns.length ds t.s) v then ⟨[8], t, true⟩ else ⟨[], ⟨t.s, t.ls, provL t.pr v⟩, true⟩ := by unfold smTo; rw [if_neg (by simp), if_pos rfl]
theorem smTo6 : smTo ns ds co t ⟨6, d, v, p, q⟩ = if t.s.getD d.toNat 0 ≠ p then ⟨[8], t, false⟩ else ⟨[], t, true⟩ := by
 unfold smTo; rw [if_neg (by simp), if_neg (by simp), if_neg (by simp)]; rfl
theorem lkd4 (ls : List Lk) : lkdTo ns ds ls ⟨4, d, v, p, q⟩ = match idxL d q ls with
 | none => (ls, false)
 | some i => (ls.eraseIdx i, true) := by unfold lkdTo; rw [if_neg (by simp)] <;> rfl
theorem lkd3 (ls : List Lk) : lkdTo ns ds ls ⟨3, d, v, p, q⟩ = if addErr ns ds ls ⟨d, p, q⟩ ≠ 0 then (ls, false) else (insL ⟨d, p, q⟩ ls, true) := by unfold lkdTo; rw [if_pos rfl]
theorem smTo4 : smTo ns ds co t ⟨4, d, v, p, q⟩ = if (lkdTo ns ds t.ls ⟨4, d, v, p, q⟩).2 then ⟨[], ⟨t.s, (lkdTo ns ds t.ls ⟨4, d, v, p, q⟩).1, t.pr⟩, true⟩ else ⟨[4], t, true⟩ := by
 have e : smTo ns ds co t ⟨4, d, v, p, q⟩ = match idxL d q t.ls with
  | none => ⟨[4], t, true⟩
  | some i => ⟨[], ⟨t.s, t.ls.eraseIdx i, t.pr⟩, true⟩ := by
  unfold smTo; rw [if_neg (by simp), if_neg (by simp), if_pos rfl]; rfl
 rw [e, lkd4]
 rcases idxL d q t.ls with _ | i <;> rfl
theorem smTo3 : smTo ns ds co t ⟨3, d, v, p, q⟩ = if t.s.getD d.toNat 0 ≠ p then ⟨[8], t, false⟩ else if (lkdTo ns ds t.ls ⟨3, d, v, p, q⟩).2 then ⟨[], ⟨t.s, (lkdTo ns ds t.ls ⟨3, d, v, p, q⟩).1, t.pr⟩, true⟩ else ⟨[4], t, true⟩ := by
 rw [lkd3]
 unfold smTo; rw [if_neg (by simp), if_neg (by simp), if_neg (by simp)]
 dsimp only
 by_cases h : t.s.getD d.toNat 0 ≠ p
 ·rw [if_pos h, if_pos h]
 ·rw [if_neg h, if_neg h, if_neg (by simp)]
  by_cases h2 : addErr ns ds t.ls ⟨d, p, q⟩ ≠ 0
  ·rw [if_pos h2, if_pos h2]; rfl
  ·rw [if_neg h2, if_neg h2]; rfl
theorem lkd_no {ls : List Lk} {x : Sp} (h : (lkdTo ns ds ls x).2 = false) : (lkdTo ns ds ls x).1 = ls := by
 unfold lkdTo at h ⊢
 split at h
 ·next h1 =>
  rw [if_pos h1]
  split at h
  ·next h2 => rw [if_pos h2]
  ·cases h
 ·next h1 =>
  rw [if_neg h1]
  split at h
  ·rfl
  ·cases h
end
structure SoAt (w : World) (A1 A2 Al Ap : Option Addr) (n1 c1 n2 c2 nl cl np cp : Nat) (o : So) : Prop where
 h : Sl w w.heap.size 1 A1 n1 c1 (intsV o.h)
 s : Sl w w.heap.size 1 A2 n2 c2 (intsV o.t.s)
 l : Sl w w.heap.size 3 Al nl cl (o.t.ls.flatMap Lk.cells)
 p : Sl w w.heap.size 1 Ap np cp (intsV o.t.pr)
def Fre (B : Nat) (A A' : Option Addr) (n n' : Nat) : Prop := A' = A ∧ n' = n ∨ ∀ b off, A' = some ⟨b, off, none⟩ → B ≤ b
def SoPost (w : World) (As Al0 Ap0 : Option Addr) (n nl0 np0 : Nat) (co : Int) (o : So) (e : Ending) (w' : World) : Prop :=
 ∃ (A1 A2 Al Ap : Option Addr) (n1 c1 n2 c2 nl cl np cp : Nat), e = .returned (.tuple #[.slice A1 n1 c1, .slice A2 n2 c2, .agg #[.int .i64 co, .slice Al nl cl, .slice Ap np cp], .bool o.ok]) ∧ Hid (SoAt w' A1 A2 Al Ap n1 c1 n2 c2 nl cl np cp o) ∧ Hid (Fre w.heap.size none A1 0 n1 ∧ Fre w.heap.size As A2 n n2 ∧ Fre w.heap.size Al0 Al nl0 nl ∧ Fre w.heap.size Ap0 Ap np0 np) ∧ Hid (Below w.heap.size w w')
theorem off3 {w w2 wa : World} {size n c x : Nat} {A : Option Addr} {xs : List Value} {a b d : Value} (h : Sl w2 w2.heap.size size A n c xs) (ho : Sl w w.heap.size size A n c xs ∨ ∀ b off, A = some ⟨b, off, none⟩ → b ≠ x) (hb : Below w2.heap.size w2 wa) (hz : Below w.heap.size w (((wa.setCell ⟨x, 0, none⟩ a).setCell ⟨x, 1, none⟩ b).setCell ⟨x, 2, none⟩ d)) : Sl (((wa.setCell ⟨x, 0, none⟩ a).setCell ⟨x, 1, none⟩ b).setCell ⟨x, 2, none⟩ d) (((wa.setCell ⟨x, 0, none⟩ a).setCell ⟨x, 1, none⟩ b).setCell ⟨x, 2, none⟩ d).heap.size size A n c xs := by
 rcases ho with ho | ho
 ·exact (ho.below hz (Nat.le_refl _)).more hz.size
 ·exact sl3 ((h.below hb (Nat.le_refl _)).more hb.size) ho
theorem sl_blk1 {z : World} {bq : Nat} {v : Int} (hv : Blk z bq 3 #[.int .i64 v]) : Sl z z.heap.size 1 (some ⟨bq, 0, none⟩) 1 1 (intsV [v]) :=
 ⟨rfl, Nat.le_refl _, by decide, (fun e => by cases e), fun _ => ⟨bq, 0, rfl, hv.lt, fun j u hu => by rw [Nat.zero_add, hv.cell]; simpa [intsV] using hu⟩⟩
theorem blk_far3 {w : World} {g x : Nat} {t : TypeId} {cs : Array Value} {a b d : Value} (h : Blk w g t cs) (hg : g ≠ x) : Blk (((w.setCell ⟨x, 0, none⟩ a).setCell ⟨x, 1, none⟩ b).setCell ⟨x, 2, none⟩ d) g t cs := ((h.far (p := ⟨x, 0, none⟩) hg a).far (p := ⟨x, 1, none⟩) hg b).far (p := ⟨x, 2, none⟩) hg d
theorem Bst.cells {w wr : World} {An Ad Al Ap : Option Addr} {nn cn nd cd nl cl np cp : Nat} {co k d no p q : Int} (h : Bst w #[.slice An nn cn, .slice Ad nd cd] #[.int .i64 co, .slice Al nl cl, .slice Ap np cp] #[.int .i64 k, .int .i64 d, .int .i64 no, .int .i64 p, .int .i64 q] wr) :
 (wr.cell? ⟨w.heap.size, 0, none⟩ = some (.slice An nn cn) ∧ wr.cell? ⟨w.heap.size, 1, none⟩ = some (.slice Ad nd cd)) ∧ (wr.cell? ⟨w.heap.size + 1, 0, none⟩ = some (.int .i64 co) ∧ wr.cell? ⟨w.heap.size + 1, 1, none⟩ = some (.slice Al nl cl) ∧ wr.cell? ⟨w.heap.size + 1, 2, none⟩ = some (.slice Ap np cp)) ∧ wr.cell? ⟨w.heap.size + 2, 0, none⟩ = some (.int .i64 k) ∧ wr.cell? ⟨w.heap.size + 2, 1, none⟩ = some (.int .i64 d) ∧ wr.cell? ⟨w.heap.size + 2, 2, none⟩ = some (.int .i64 no) ∧ wr.cell? ⟨w.heap.size + 2, 3, none⟩ = some (.int .i64 p) ∧ wr.cell? ⟨w.heap.size + 2, 4, none⟩ = some (.int .i64 q) :=
 ⟨⟨h.b0.cell 0, h.b0.cell 1⟩, ⟨h.b1.cell 0, h.b1.cell 1, h.b1.cell 2⟩, h.b2.cell 0, h.b2.cell 1, h.b2.cell 2, h.b2.cell 3, h.b2.cell 4⟩
theorem simstep_prove (An Ad As Al Ap : Option Addr) (nn cn nd cd n c nl cl np cp : Nat) (ns : List Nd) (ds : List Dv) (s : List Int) (ls : List Lk) (pr : List Int) (co k d no p q : Int) (w : World) (h : HzMem w An Ad As Al Ap nn cn nd cd n c nl cl np cp ns ds s ls pr) (hok : SmOk ns ds ⟨s, ls, pr⟩) (_hco : 0 ≤ co ∧ co ≤ 7) (hx : spErr ns.length ds.length ⟨k, d, no, p, q⟩ = 0) (hk : k = 5) :
 Calls Tryz.prog 71 #[.agg #[.slice An nn cn, .slice Ad nd cd], .slice As n c, .agg #[.int .i64 co, .slice Al nl cl, .slice Ap np cp], .agg #[.int .i64 k, .int .i64 d, .int .i64 no, .int .i64 p, .int .i64 q]] w (SoPost w As Al Ap n nl np co (smTo ns ds co ⟨s, ls, pr⟩ ⟨k, d, no, p, q⟩)) := by
 have HK := Lib.hid hk
 clear hk
 obtain ⟨hln, hld, hls⟩ := h.ln
 have hlp : pr.length = np := h.hp.len (fun _ => rfl) (by decide)
 have HH := Lib.hid h
 have HB := Lib.hid (Bst.new w #[.slice An nn cn, .slice Ad nd cd] #[.int .i64 co, .slice Al nl cl, .slice Ap np cp] #[.int .i64 k, .int .i64 d, .int .i64 no, .int .i64 p, .int .i64 q])
 obtain ⟨hx1, hx2, hx3, hx4, hx5⟩ := spErr_ok hx
 dsimp only at hx1 hx2 hx3 hx4 hx5
 obtain ⟨hcn, hsl⟩ := stateErr_net hok.s
 have HNK := Lib.hid (NetOk.of hcn)
 have HOK := Lib.hid hok
 have hnn : nn ≤ 32 := by have := HNK.out.nl; omega
 have hnd : nd ≤ 64 := by have := HNK.out.dl; omega
 dsimp only at hsl
 clear h hok hx hcn
 go_enter Tryz.func71, Tryz.ntmps71
 go_upto_region 1 with (fail)
 generalize World.alloc (World.alloc (World.alloc (World.alloc w _) _) _) _ = W at *
 rw [show w.heap.size + 1 + 1 = w.heap.size + 2 from rfl, show w.heap.size + 2 + 1 = w.heap.size + 3 from rfl]
 have HM := Lib.hid (HH.out.below HB.out.bl)
 obtain ⟨⟨k0, k1⟩, ⟨g0, g1, g2⟩, s0, s1, s2, s3, s4⟩ := HB.out.cells
 have hk := HK.out
 clear HK
 subst hk
 have hlt := hx3 rfl
 obtain ⟨v, rfl⟩ := Int.eq_ofNat_of_zero_le hlt.1
 have hv : v < nn := by omega
 go_wp2_with fail
 clear k0 k1 g0 g1 g2 s0 s1 s2 s3 s4
 refine (both_any An Ad As nn cn nd cd n c W.heap.size W.heap.size ds s W HM.out.hd (Nat.le_refl _) HM.out.hs (Nat.le_refl _) (by omega) (by omega) (by omega) (by have := HNK.out.e; rwa [hln] at this) (by have := HNK.out.a; rwa [hln] at this)).mono ?_
 rintro e w1 ⟨A, B, P, C, rfl, hO1, hO2, hP, hC, hb⟩
 have HB1 := Lib.hid (HB.out.later hb.out)
 obtain ⟨g, x, rfl, -, -, hx, hcx, -, -⟩ := hO2.out.at hv
 have HCV : Hid (lvB (colsOf ns.length ds s) v = liveB x) := by unfold Hid lvB; rw [hln, colsOf_eq hC.out, List.getD_eq_getElem?_getD]; simp [hx]
 clear hO1 hO2 hP hC hb HB HM hx
 obtain ⟨⟨k0, k1⟩, ⟨g0, g1, g2⟩, s0, s1, s2, s3, s4⟩ := HB1.out.cells
 rcases hlv : liveB x with _ | _
 ·have q1 : (bits .and .i64 x 1 != 0) = false := hlv
  have HT : Hid (smTo ns ds co ⟨s, ls, pr⟩ ⟨5, d, v, p, q⟩ = ⟨[], ⟨s, ls, provL pr v⟩, true⟩) := by unfold Hid; rw [smTo5, HCV.out, hlv]; rfl
  go_upto_region 13 with (fail)
  clear q1 hcx
  go_wp2_with fail
  clear k0 k1 g0 g1 g2 s0 s1 s2 s3 s4
  refine (proved_any Al Ap nl cl np cp co v pr w1 (HH.out.below HB1.out.bl).hp (by have := risL_len HOK.out.p; dsimp only at this; omega) (risL_iff _ _ _ |>.mp HOK.out.p).2).mono ?_
  rintro e w2 ⟨A4, n4, c4, rfl, hS, hW, hb⟩
  have HB2 := Lib.hid (HB1.out.later hb.out)
  have HS4 := Lib.hid hS.out
  have HWH := Lib.hid hW.out
  have HLT1 : Hid (w.heap.size + 3 < w1.heap.size) := HB1.out.b3.lt
  have HFA : Hid (Fre w.heap.size Ap A4 np n4) := by
   rcases hW.out with ⟨h, h2, -⟩ | h
   ·exact .inl ⟨h, h2⟩
   ·exact .inr fun b off e => by have := h b off e; have := HB1.out.bl.size; omega
  clear hS hW hb HB1
  have d0 := HB2.out.b3.cell 0
  have d1 := HB2.out.b3.cell 1
  have d2 := HB2.out.b3.cell 2
  have y0 := HB2.out.b3.frozen 0
  have y1 := HB2.out.b3.frozen 1
  have y2 := HB2.out.b3.frozen 2
  have HE := Lib.hid (HB2.out.fin (x := .int .i64 co) (y := .slice Al nl cl) (z := .slice A4 n4 c4))
  have HSO : Hid (SoAt (((w2.setCell ⟨w.heap.size + 3, 0, none⟩ (.int .i64 co)).setCell ⟨w.heap.size + 3, 1, none⟩ (.slice Al nl cl)).setCell ⟨w.heap.size + 3, 2, none⟩ (.slice A4 n4 c4)) none As Al A4 0 0 n c nl cl n4 c4 ⟨[], ⟨s, ls, provL pr v⟩, true⟩) := by
   refine ⟨Sl.nil _ _ _, (HH.out.below HE.out.2).hs, (HH.out.below HE.out.2).hl, ?_⟩
   rcases HWH.out with ⟨rfl, rfl, rfl, e⟩ | hf
   ·dsimp only; rw [e]; exact (HH.out.below HE.out.2).hp
   ·exact sl3 HS4.out (fun b off e => by have := hf b off e; have := HLT1.out; omega)
  go_wp2_with fail
  clear d0 d1 d2 y0 y1 y2
  generalize World.setCell (World.setCell (World.setCell w2 _ _) _ _) _ _ = z at *
  have q0 := HE.out.1.c0
  have q1 := HE.out.1.c1
  have q2 := HE.out.1.c2
  exact bodyPost_ret (v := .tuple #[.slice none 0 0, .slice As n c, .agg #[.int .i64 co, .slice Al nl cl, .slice A4 n4 c4], .bool true]) (by simp [results, Tryz.results71, go_sem, q0, q1, q2]) rfl ⟨_, _, _, _, _, _, _, _, _, _, _, _, by rw [HT.out], by rw [HT.out]; exact HSO, ⟨.inl ⟨rfl, rfl⟩, .inl ⟨rfl, rfl⟩, .inl ⟨rfl, rfl⟩, HFA.out⟩, HE.out.2⟩
 ·have q1 : (bits .and .i64 x 1 != 0) = true := hlv
  have HT : Hid (smTo ns ds co ⟨s, ls, pr⟩ ⟨5, d, v, p, q⟩ = ⟨[8], ⟨s, ls, pr⟩, true⟩) := by unfold Hid; rw [smTo5, HCV.out, hlv]; rfl
  go_upto_region 12 with (fail)
  clear q1 hcx k0 k1 g0 g1 g2 s0 s1 s2 s3 s4
  have HG1 := Lib.hid HB1.out.b1
  have HBLA : Hid (Below w1.heap.size w1 (w1.alloc (.cells #[.int .i64 8] 3)).drew) := ((Below.refl w1.heap.size w1).alloc (Nat.le_refl _) (.cells #[.int .i64 8] 3)).drew
  have HBA := Lib.hid (HB1.out.later HBLA.out)
  have HVA : Hid (Blk (w1.alloc (.cells #[.int .i64 8] 3)).drew w1.heap.size 3 #[.int .i64 8]) := Blk.new w1 3 #[.int .i64 8]
  have HGA := Lib.hid (HG1.out.below HBLA.out HG1.out.lt)
  have hqq : w1.heap.size ≠ w.heap.size + 3 := by have := HB1.out.b3.lt; omega
  refine wp_region_J (S := fun W' => W'.cell? ⟨w.heap.size + 1, 0, none⟩ = some (.int .i64 co) ∧ W'.cell? ⟨w.heap.size + 1, 1, none⟩ = some (.slice Al nl cl) ∧ W'.cell? ⟨w.heap.size + 1, 2, none⟩ = some (.slice Ap np cp)) (J := [5, 6]) (by kernel_rfl) ?_ (fun hHeld => ?_)
  ·exact ⟨HG1.out.cell 0, HG1.out.cell 1, HG1.out.cell 2⟩
  try dsimp only at hHeld
  refine tk 1 65 #[ff, tt, ff, ff, ff, ff, ff] hHeld ?_
  refine tk 2 66 #[ff, tt, tt, ff, ff, ff, ff] hHeld ?_
  refine wpAnyJ_oneL (k := 0) (mf 7 3) (by kernel_rfl) (by kernel_rfl) rfl (fun K hK => ?_)
  go_simp
  refine hK.out _ _ (fun _ => ?_) (fun hHeld' => ?_)
  ·exact ⟨HGA.out.cell 0, HGA.out.cell 1, HGA.out.cell 2⟩
  replace hHeld := hHeld' rfl
  clear hHeld' hK K
  try dsimp only at hHeld
  generalize World.drew (World.alloc w1 _) = wa at *
  have d0 := HBA.out.b3.cell 0; have d1 := HBA.out.b3.cell 1; have d2 := HBA.out.b3.cell 2; have y0 := HBA.out.b3.frozen 0; have y1 := HBA.out.b3.frozen 1; have y2 := HBA.out.b3.frozen 2
  refine tk 3 8 (mf 7 4) hHeld ?_
  refine tk 4 9 (mf 7 5) hHeld ?_
  refine wpAnyJ_oneL (k := 5) (mf 7 6) (by kernel_rfl) (by kernel_rfl) rfl (fun K hK => ?_)
  go_simp
  refine hK.out _ _ (fun h => by cases h) (fun _ => ?_)
  try clear hHeld
  clear hK K
  refine wpAnyJ_oneL (k := 6) (mf 7 7) (by kernel_rfl) (by kernel_rfl) rfl (fun K hK => ?_)
  go_simp
  refine hK.out _ _ (fun h => by cases h) (fun _ => ?_)
  try clear hHeld
  clear hK K
  refine wpAnyJ_done (by kernel_rfl) ?_ _
  have HE := Lib.hid (HBA.out.fin (x := .int .i64 co) (y := .slice Al nl cl) (z := .slice Ap np cp))
  have HSO : Hid (SoAt (((wa.setCell ⟨w.heap.size + 3, 0, none⟩ (.int .i64 co)).setCell ⟨w.heap.size + 3, 1, none⟩ (.slice Al nl cl)).setCell ⟨w.heap.size + 3, 2, none⟩ (.slice Ap np cp)) (some ⟨w1.heap.size, 0, none⟩) As Al Ap 1 1 n c nl cl np cp ⟨[8], ⟨s, ls, pr⟩, true⟩) := ⟨sl_blk1 (blk_far3 HVA.out hqq), (HH.out.below HE.out.2).hs, (HH.out.below HE.out.2).hl, (HH.out.below HE.out.2).hp⟩
  clear d0 d1 d2 y0 y1 y2
  go_wp2_with fail
  generalize World.setCell (World.setCell (World.setCell wa _ _) _ _) _ _ = z at *
  have q0 := HE.out.1.c0
  have q1 := HE.out.1.c1
  have q2 := HE.out.1.c2
  exact bodyPost_ret (v := .tuple #[.slice (some ⟨w1.heap.size, 0, none⟩) 1 1, .slice As n c, .agg #[.int .i64 co, .slice Al nl cl, .slice Ap np cp], .bool true]) (by simp [results, Tryz.results71, go_sem, q0, q1, q2]) rfl ⟨_, _, _, _, _, _, _, _, _, _, _, _, by rw [HT.out], by rw [HT.out]; exact HSO, ⟨.inr (fun b off e => by injection e with e; injection e with e1 e2; rw [← e1]; exact HB1.out.bl.size), .inl ⟨rfl, rfl⟩, .inl ⟨rfl, rfl⟩, .inl ⟨rfl, rfl⟩⟩, HE.out.2⟩
theorem simstep_unlock (An Ad As Al Ap : Option Addr) (nn cn nd cd n c nl cl np cp : Nat) (ns : List Nd) (ds : List Dv) (s : List Int) (ls : List Lk) (pr : List Int) (co k d no p q : Int) (w : World) (h : HzMem w An Ad As Al Ap nn cn nd cd n c nl cl np cp ns ds s ls pr) (hok : SmOk ns ds ⟨s, ls, pr⟩) (_hco : 0 ≤ co ∧ co ≤ 7) (hx : spErr ns.length ds.length ⟨k, d, no, p, q⟩ = 0) (hk : k = 4) :
 Calls Tryz.prog 71 #[.agg #[.slice An nn cn, .slice Ad nd cd], .slice As n c, .agg #[.int .i64 co, .slice Al nl cl, .slice Ap np cp], .agg #[.int .i64 k, .int .i64 d, .int .i64 no, .int .i64 p, .int .i64 q]] w (SoPost w As Al Ap n nl np co (smTo ns ds co ⟨s, ls, pr⟩ ⟨k, d, no, p, q⟩)) := by
 have HK := Lib.hid hk
 clear hk
 obtain ⟨hln, hld, hls⟩ := h.ln
 have hlp : pr.length = np := h.hp.len (fun _ => rfl) (by decide)
 have HH := Lib.hid h
 have HB := Lib.hid (Bst.new w #[.slice An nn cn, .slice Ad nd cd] #[.int .i64 co, .slice Al nl cl, .slice Ap np cp] #[.int .i64 k, .int .i64 d, .int .i64 no, .int .i64 p, .int .i64 q])
 obtain ⟨hx1, hx2, hx3, hx4, hx5⟩ := spErr_ok hx
 dsimp only at hx1 hx2 hx3 hx4 hx5
 obtain ⟨hcn, hsl⟩ := stateErr_net hok.s
 have HNK := Lib.hid (NetOk.of hcn)
 have HOK := Lib.hid hok
 have hnn : nn ≤ 32 := by have := HNK.out.nl; omega
 have hnd : nd ≤ 64 := by have := HNK.out.dl; omega
 dsimp only at hsl
 clear h hok hx hcn
 go_enter Tryz.func71, Tryz.ntmps71
 go_upto_region 1 with (fail)
 generalize World.alloc (World.alloc (World.alloc (World.alloc w _) _) _) _ = W at *
 rw [show w.heap.size + 1 + 1 = w.heap.size + 2 from rfl, show w.heap.size + 2 + 1 = w.heap.size + 3 from rfl]
 have HM := Lib.hid (HH.out.below HB.out.bl)
 obtain ⟨⟨k0, k1⟩, ⟨g0, g1, g2⟩, s0, s1, s2, s3, s4⟩ := HB.out.cells
 have hk := HK.out
 clear HK
 subst hk
 have HLK := Lib.hid (glocked_any An Ad Al Ap nn cn nd cd nl cl np cp ns ds ls co 4 d no p q W (HH.out.below HB.out.bl).la (HH.out.below HB.out.bl).hn (HH.out.below HB.out.bl).hd (HH.out.below HB.out.bl).hl (HH.out.below HB.out.bl).sn (HH.out.below HB.out.bl).sd (by decide) HOK.out.l)
 go_wp2_with fail
 clear k0 k1 g0 g1 g2 s0 s1 s2 s3 s4
 refine HLK.out.mono ?_
 rintro e w2 ⟨A, m, cA, rfl, hS, hW, hb⟩
 have HB2 := Lib.hid (HB.out.later hb.out)
 have HS2 := Lib.hid hS.out
 have HW2 : Hid (Sl w w.heap.size 3 A m cA ((lkdTo ns ds ls ⟨4, d, no, p, q⟩).1.flatMap Lk.cells) ∨ ∀ b off, A = some ⟨b, off, none⟩ → b ≠ w.heap.size + 3) := by
  rcases hW.out with ⟨rfl, rfl, rfl, e⟩ | h
  ·left; rw [e]; exact HH.out.hl
  ·right; intro b off e; have := h b off e; have := HB.out.b3.lt; omega
 have HWF : Hid (Fre w.heap.size Al A nl m) := by
  rcases hW.out with ⟨h, h2, -⟩ | h
  ·exact .inl ⟨h, h2⟩
  ·exact .inr fun b off e => by have := h b off e; have := HB.out.bl.size; omega
 clear hS hW hb HLK HB
 obtain ⟨L, hL⟩ : ∃ L, L = (lkdTo ns ds ls ⟨4, d, no, p, q⟩).1 := ⟨_, rfl⟩
 rw [← hL] at HS2 HW2
 have HLL := Lib.hid hL
 clear hL
 rcases hb2 : (lkdTo ns ds ls ⟨4, d, no, p, q⟩).2 with _ | _
 ·have HLS : Hid (L = ls) := HLL.out.trans (lkd_no ns ds hb2)
  have HT : Hid (smTo ns ds co ⟨s, ls, pr⟩ ⟨4, d, no, p, q⟩ = ⟨[4], ⟨s, ls, pr⟩, true⟩) := by unfold Hid; rw [smTo4, hb2]; rfl
  clear hb2
  go_upto_region 21 with (fail)
  have HBV := Lib.hid (HB2.out.later ((Below.refl _ w2).alloc (Nat.le_refl _) (.cells #[.int .i64 co, .slice A m cA, .slice Ap np cp] 37)))
  have HG2 := Lib.hid (Blk.new w2 37 #[.int .i64 co, .slice A m cA, .slice Ap np cp])
  have HBL2 : Hid (Below w2.heap.size w2 (w2.alloc (.cells #[.int .i64 co, .slice A m cA, .slice Ap np cp] 37))) := (Below.refl _ w2).alloc (Nat.le_refl _) _
  generalize World.alloc w2 _ = V at *
  obtain ⟨gb, hgb⟩ : ∃ x, x = w2.heap.size := ⟨_, rfl⟩
  rw [← hgb] at HG2 ⊢
  clear hgb
  go_upto_region 22 with (fail)
  rw [HLS.out] at HS2 HW2
  have HBLA : Hid (Below V.heap.size V (V.alloc (.cells #[.int .i64 4] 3)).drew) := ((Below.refl V.heap.size V).alloc (Nat.le_refl _) (.cells #[.int .i64 4] 3)).drew
  have HBA := Lib.hid (HBV.out.later HBLA.out)
  have HVA : Hid (Blk (V.alloc (.cells #[.int .i64 4] 3)).drew V.heap.size 3 #[.int .i64 4]) := Blk.new V 3 #[.int .i64 4]
  have HGA := Lib.hid (HG2.out.below HBLA.out HG2.out.lt)
  have hqq : V.heap.size ≠ w.heap.size + 3 := by have := HBV.out.b3.lt; omega
  refine wp_region_J (S := fun W' => W'.cell? ⟨gb, 0, none⟩ = some (.int .i64 co) ∧ W'.cell? ⟨gb, 1, none⟩ = some (.slice A m cA) ∧ W'.cell? ⟨gb, 2, none⟩ = some (.slice Ap np cp)) (J := [5, 6]) (by kernel_rfl) ?_ (fun hHeld => ?_)
  ·exact ⟨HG2.out.cell 0, HG2.out.cell 1, HG2.out.cell 2⟩
  try dsimp only at hHeld
  refine tk 1 101 #[ff, tt, ff, ff, ff, ff, ff] hHeld ?_
  refine tk 2 102 #[ff, tt, tt, ff, ff, ff, ff] hHeld ?_
  refine wpAnyJ_oneL (k := 0) (mf 7 3) (by kernel_rfl) (by kernel_rfl) rfl (fun K hK => ?_)
  go_simp
  refine hK.out _ _ (fun _ => ?_) (fun hHeld' => ?_)
  ·exact ⟨HGA.out.cell 0, HGA.out.cell 1, HGA.out.cell 2⟩
  replace hHeld := hHeld' rfl
  clear hHeld' hK K
  try dsimp only at hHeld
  generalize World.drew (World.alloc V _) = wa at *
  have d0 := HBA.out.b3.cell 0; have d1 := HBA.out.b3.cell 1; have d2 := HBA.out.b3.cell 2; have y0 := HBA.out.b3.frozen 0; have y1 := HBA.out.b3.frozen 1; have y2 := HBA.out.b3.frozen 2
  refine tk 3 8 (mf 7 4) hHeld ?_
  refine tk 4 9 (mf 7 5) hHeld ?_
  refine wpAnyJ_oneL (k := 5) (mf 7 6) (by kernel_rfl) (by kernel_rfl) rfl (fun K hK => ?_)
  go_simp
  refine hK.out _ _ (fun h => by cases h) (fun _ => ?_)
  try clear hHeld
  clear hK K
  refine wpAnyJ_oneL (k := 6) (mf 7 7) (by kernel_rfl) (by kernel_rfl) rfl (fun K hK => ?_)
  go_simp
  refine hK.out _ _ (fun h => by cases h) (fun _ => ?_)
  try clear hHeld
  clear hK K
  refine wpAnyJ_done (by kernel_rfl) ?_ _
  have HE := Lib.hid (HBA.out.fin (x := .int .i64 co) (y := .slice A m cA) (z := .slice Ap np cp))
  have HSO : Hid (SoAt (((wa.setCell ⟨w.heap.size + 3, 0, none⟩ (.int .i64 co)).setCell ⟨w.heap.size + 3, 1, none⟩ (.slice A m cA)).setCell ⟨w.heap.size + 3, 2, none⟩ (.slice Ap np cp)) (some ⟨V.heap.size, 0, none⟩) As A Ap 1 1 n c m cA np cp ⟨[4], ⟨s, ls, pr⟩, true⟩) := ⟨sl_blk1 (blk_far3 HVA.out hqq), (HH.out.below HE.out.2).hs, off3 HS2.out HW2.out (HBL2.out.trans (HBLA.out.mono HBL2.out.size)) HE.out.2, (HH.out.below HE.out.2).hp⟩
  clear d0 d1 d2 y0 y1 y2
  go_wp2_with fail
  generalize World.setCell (World.setCell (World.setCell wa _ _) _ _) _ _ = z at *
  have q0 := HE.out.1.c0
  have q1 := HE.out.1.c1
  have q2 := HE.out.1.c2
  exact bodyPost_ret (v := .tuple #[.slice (some ⟨V.heap.size, 0, none⟩) 1 1, .slice As n c, .agg #[.int .i64 co, .slice A m cA, .slice Ap np cp], .bool true]) (by simp [results, Tryz.results71, go_sem, q0, q1, q2]) rfl ⟨_, _, _, _, _, _, _, _, _, _, _, _, by rw [HT.out], by rw [HT.out]; exact HSO, ⟨.inr (fun b off e => by injection e with e; injection e with e1 e2; rw [← e1]; exact HBV.out.bl.size), .inl ⟨rfl, rfl⟩, HWF.out, .inl ⟨rfl, rfl⟩⟩, HE.out.2⟩
 ·have HT : Hid (smTo ns ds co ⟨s, ls, pr⟩ ⟨4, d, no, p, q⟩ = ⟨[], ⟨s, L, pr⟩, true⟩) := by unfold Hid; rw [smTo4, hb2, HLL.out]; rfl
  clear hb2
  go_upto_region 21 with (fail)
  have HBV := Lib.hid (HB2.out.later ((Below.refl _ w2).alloc (Nat.le_refl _) (.cells #[.int .i64 co, .slice A m cA, .slice Ap np cp] 37)))
  have HG2 := Lib.hid (Blk.new w2 37 #[.int .i64 co, .slice A m cA, .slice Ap np cp])
  have HBL2 : Hid (Below w2.heap.size w2 (w2.alloc (.cells #[.int .i64 co, .slice A m cA, .slice Ap np cp] 37))) := (Below.refl _ w2).alloc (Nat.le_refl _) _
  generalize World.alloc w2 _ = V at *
  obtain ⟨gb, hgb⟩ : ∃ x, x = w2.heap.size := ⟨_, rfl⟩
  rw [← hgb] at HG2 ⊢
  clear hgb
  go_upto_region 23 with (fail)
  have d0 := HBV.out.b3.cell 0; have d1 := HBV.out.b3.cell 1; have d2 := HBV.out.b3.cell 2; have y0 := HBV.out.b3.frozen 0; have y1 := HBV.out.b3.frozen 1; have y2 := HBV.out.b3.frozen 2
  refine wp_region_J (S := fun W' => W'.cell? ⟨gb, 0, none⟩ = some (.int .i64 co) ∧ W'.cell? ⟨gb, 1, none⟩ = some (.slice A m cA) ∧ W'.cell? ⟨gb, 2, none⟩ = some (.slice Ap np cp)) (J := [4, 5]) (by kernel_rfl) ?_ (fun hHeld => ?_)
  ·exact ⟨HG2.out.cell 0, HG2.out.cell 1, HG2.out.cell 2⟩
  try dsimp only at hHeld
  refine tk 0 103 (mf 6 1) hHeld ?_
  refine tk 1 104 (mf 6 2) hHeld ?_
  refine tk 2 8 (mf 6 3) hHeld ?_
  refine tk 3 9 (mf 6 4) hHeld ?_
  refine wpAnyJ_oneL (k := 4) (mf 6 5) (by kernel_rfl) (by kernel_rfl) rfl (fun K hK => ?_)
  go_simp
  refine hK.out _ _ (fun h => by cases h) (fun _ => ?_)
  try clear hHeld
  clear hK K
  refine wpAnyJ_oneL (k := 5) (mf 6 6) (by kernel_rfl) (by kernel_rfl) rfl (fun K hK => ?_)
  go_simp
  refine hK.out _ _ (fun h => by cases h) (fun _ => ?_)
  try clear hHeld
  clear hK K
  refine wpAnyJ_done (by kernel_rfl) ?_ _
  have HE0 := Lib.hid (HBV.out.fin (x := .int .i64 co) (y := .slice A m cA) (z := .slice Ap np cp))
  have HE : Hid (Blk (((V.setCell ⟨w.heap.size + 3, 0, none⟩ (.int .i64 co)).setCell ⟨w.heap.size + 3, 1, none⟩ (.slice A m cA)).setCell ⟨w.heap.size + 3, 2, none⟩ (.slice Ap np cp)).drew (w.heap.size + 3) 37 #[.int .i64 co, .slice A m cA, .slice Ap np cp] ∧ Below w.heap.size w (((V.setCell ⟨w.heap.size + 3, 0, none⟩ (.int .i64 co)).setCell ⟨w.heap.size + 3, 1, none⟩ (.slice A m cA)).setCell ⟨w.heap.size + 3, 2, none⟩ (.slice Ap np cp)).drew) := ⟨HE0.out.1, HE0.out.2.drew⟩
  have HSO : Hid (SoAt (((V.setCell ⟨w.heap.size + 3, 0, none⟩ (.int .i64 co)).setCell ⟨w.heap.size + 3, 1, none⟩ (.slice A m cA)).setCell ⟨w.heap.size + 3, 2, none⟩ (.slice Ap np cp)).drew none As A Ap 0 0 n c m cA np cp ⟨[], ⟨s, L, pr⟩, true⟩) := ⟨Sl.nil _ _ _, (HH.out.below HE.out.2).hs, off3 HS2.out HW2.out HBL2.out HE0.out.2, (HH.out.below HE.out.2).hp⟩
  clear d0 d1 d2 y0 y1 y2 HE0
  go_wp2_with fail
  generalize World.drew (World.setCell (World.setCell (World.setCell V _ _) _ _) _ _) = z at *
  have q0 := HE.out.1.c0
  have q1 := HE.out.1.c1
  have q2 := HE.out.1.c2
  exact bodyPost_ret (v := .tuple #[.slice none 0 0, .slice As n c, .agg #[.int .i64 co, .slice A m cA, .slice Ap np cp], .bool true]) (by simp [results, Tryz.results71, go_sem, q0, q1, q2]) rfl ⟨_, _, _, _, _, _, _, _, _, _, _, _, by rw [HT.out], by rw [HT.out]; exact HSO, ⟨.inl ⟨rfl, rfl⟩, .inl ⟨rfl, rfl⟩, HWF.out, .inl ⟨rfl, rfl⟩⟩, HE.out.2⟩
theorem simstep_check (An Ad As Al Ap : Option Addr) (nn cn nd cd n c nl cl np cp : Nat) (ns : List Nd) (ds : List Dv) (s : List Int) (ls : List Lk) (pr : List Int) (co k d no p q : Int) (w : World) (h : HzMem w An Ad As Al Ap nn cn nd cd n c nl cl np cp ns ds s ls pr) (hok : SmOk ns ds ⟨s, ls, pr⟩) (_hco : 0 ≤ co ∧ co ≤ 7) (hx : spErr ns.length ds.length ⟨k, d, no, p, q⟩ = 0) (hk : k = 6) :
 Calls Tryz.prog 71 #[.agg #[.slice An nn cn, .slice Ad nd cd], .slice As n c, .agg #[.int .i64 co, .slice Al nl cl, .slice Ap np cp], .agg #[.int .i64 k, .int .i64 d, .int .i64 no, .int .i64 p, .int .i64 q]] w (SoPost w As Al Ap n nl np co (smTo ns ds co ⟨s, ls, pr⟩ ⟨k, d, no, p, q⟩)) := by
 have HK := Lib.hid hk
 clear hk
 obtain ⟨hln, hld, hls⟩ := h.ln
 have hlp : pr.length = np := h.hp.len (fun _ => rfl) (by decide)
 have HH := Lib.hid h
 have HB := Lib.hid (Bst.new w #[.slice An nn cn, .slice Ad nd cd] #[.int .i64 co, .slice Al nl cl, .slice Ap np cp] #[.int .i64 k, .int .i64 d, .int .i64 no, .int .i64 p, .int .i64 q])
 obtain ⟨hx1, hx2, hx3, hx4, hx5⟩ := spErr_ok hx
 dsimp only at hx1 hx2 hx3 hx4 hx5
 obtain ⟨hcn, hsl⟩ := stateErr_net hok.s
 have HNK := Lib.hid (NetOk.of hcn)
 have HOK := Lib.hid hok
 have hnn : nn ≤ 32 := by have := HNK.out.nl; omega
 have hnd : nd ≤ 64 := by have := HNK.out.dl; omega
 dsimp only at hsl
 clear h hok hx hcn
 go_enter Tryz.func71, Tryz.ntmps71
 go_upto_region 1 with (fail)
 generalize World.alloc (World.alloc (World.alloc (World.alloc w _) _) _) _ = W at *
 rw [show w.heap.size + 1 + 1 = w.heap.size + 2 from rfl, show w.heap.size + 2 + 1 = w.heap.size + 3 from rfl]
 have HM := Lib.hid (HH.out.below HB.out.bl)
 obtain ⟨⟨k0, k1⟩, ⟨g0, g1, g2⟩, s0, s1, s2, s3, s4⟩ := HB.out.cells
 have hk := HK.out
 clear HK
 subst hk
 have hd2 := hx2 (by decide)
 obtain ⟨i, rfl⟩ := Int.eq_ofNat_of_zero_le hd2.1
 obtain ⟨bs, os, sv, hAs, hbs, hsv, hcs⟩ := HM.out.hs.at1 (show i < n by omega)
 subst hAs
 have HSV : Hid (s.getD (i : Int).toNat 0 = sv) := by unfold Hid; rw [Int.toNat_natCast, List.getD_eq_getElem?_getD, hsv]; rfl
 clear hsv hbs
 have hin : i < n := by omega
 go_upto_region 16 with (fail)
 refine wp_region_J (S := fun W' => (W'.cell? ⟨w.heap.size + 2, 1, none⟩ = some (.int .i64 i) ∧ W'.cell? ⟨w.heap.size + 2, 3, none⟩ = some (.int .i64 p)) ∧ W'.cell? ⟨bs, os + i, none⟩ = some (.int .i64 sv)) (J := []) (by kernel_rfl) ?_ (fun hHeld => ?_)
 ·exact ⟨⟨s1, s3⟩, hcs⟩
 try dsimp only at hHeld
 refine tk 0 75 (mf 8 1) hHeld ?_
 refine tk 1 76 (mf 8 2) hHeld ?_
 refine wpAnyJ_takeL (i := 2) (d := some 77) (v := ?_) (mf 8 3) (by kernel_rfl) rfl rfl (by kernel_rfl) (by kernel_rfl) (by kernel_rfl) (by kernel_rfl) (by kernel_rfl) (fun _ _ _ h => h) (Or.inl ⟨by rfl, ?_⟩) hHeld ?_
 rotate_left
 ·(intro w hSw; (try dsimp only at hSw); have u1 := hSw.1.1; go_simp; try with_reducible rfl)
 try simp only [Act.put, sA, sB, sC]
 refine tk 3 78 (mf 8 4) hHeld ?_
 refine wpAnyJ_takeL (i := 4) (d := some 79) (v := ?_) (mf 8 5) (by kernel_rfl) rfl rfl (by kernel_rfl) (by kernel_rfl) (by kernel_rfl) (by kernel_rfl) (by kernel_rfl) (fun _ _ _ h => h) (Or.inl ⟨by rfl, ?_⟩) hHeld ?_
 rotate_left
 ·(intro w hSw; (try dsimp only at hSw); have u2 := hSw.2; go_simp; try with_reducible rfl)
 try simp only [Act.put, sA, sB, sC]
 refine tk 5 80 (mf 8 6) hHeld ?_
 refine wpAnyJ_takeL (i := 6) (d := some 81) (v := ?_) (mf 8 7) (by kernel_rfl) rfl rfl (by kernel_rfl) (by kernel_rfl) (by kernel_rfl) (by kernel_rfl) (by kernel_rfl) (fun _ _ _ h => h) (Or.inl ⟨by rfl, ?_⟩) hHeld ?_
 rotate_left
 ·(intro w hSw; (try dsimp only at hSw); have u3 := hSw.1.2; go_simp; try with_reducible rfl)
 try simp only [Act.put, sA, sB, sC]
 refine tk 7 82 (mf 8 8) hHeld ?_
 refine wpAnyJ_done (by kernel_rfl) ?_ _
 have HBD := Lib.hid (HB.out.later (Below.refl _ W).drew)
 clear HM k0 k1 g0 g1 g2 s0 s1 s2 s3 s4 hcs
 generalize World.drew W = WD at *
 obtain ⟨⟨k0, k1⟩, ⟨g0, g1, g2⟩, s0, s1, s2, s3, s4⟩ := HBD.out.cells
 by_cases hpq : sv = p; rotate_left
 ·have q1 : (sv != p) = true := by simpa using hpq
  have HT : Hid (smTo ns ds co ⟨s, ls, pr⟩ ⟨6, i, no, p, q⟩ = ⟨[8], ⟨s, ls, pr⟩, false⟩) := by unfold Hid; rw [smTo6]; dsimp only; rw [HSV.out, if_pos hpq]
  clear hpq
  go_upto_region 17 with (fail)
  clear q1 k0 k1 g0 g1 g2 s0 s1 s2 s3 s4
  have HG1 := Lib.hid HBD.out.b1
  have HBLA : Hid (Below WD.heap.size WD (WD.alloc (.cells #[.int .i64 8] 3)).drew) := ((Below.refl WD.heap.size WD).alloc (Nat.le_refl _) (.cells #[.int .i64 8] 3)).drew
  have HBA := Lib.hid (HBD.out.later HBLA.out)
  have HVA : Hid (Blk (WD.alloc (.cells #[.int .i64 8] 3)).drew WD.heap.size 3 #[.int .i64 8]) := Blk.new WD 3 #[.int .i64 8]
  have HGA := Lib.hid (HG1.out.below HBLA.out HG1.out.lt)
  have hqq : WD.heap.size ≠ w.heap.size + 3 := by have := HBD.out.b3.lt; omega
  refine wp_region_J (S := fun W' => W'.cell? ⟨w.heap.size + 1, 0, none⟩ = some (.int .i64 co) ∧ W'.cell? ⟨w.heap.size + 1, 1, none⟩ = some (.slice Al nl cl) ∧ W'.cell? ⟨w.heap.size + 1, 2, none⟩ = some (.slice Ap np cp)) (J := [5, 6]) (by kernel_rfl) ?_ (fun hHeld => ?_)
  ·exact ⟨HG1.out.cell 0, HG1.out.cell 1, HG1.out.cell 2⟩
  try dsimp only at hHeld
  refine tk 1 84 #[ff, tt, ff, ff, ff, ff, ff] hHeld ?_
  refine tk 2 85 #[ff, tt, tt, ff, ff, ff, ff] hHeld ?_
  refine wpAnyJ_oneL (k := 0) (mf 7 3) (by kernel_rfl) (by kernel_rfl) rfl (fun K hK => ?_)
  go_simp
  refine hK.out _ _ (fun _ => ?_) (fun hHeld' => ?_)
  ·exact ⟨HGA.out.cell 0, HGA.out.cell 1, HGA.out.cell 2⟩
  replace hHeld := hHeld' rfl
  clear hHeld' hK K
  try dsimp only at hHeld
  generalize World.drew (World.alloc WD _) = wa at *
  have d0 := HBA.out.b3.cell 0; have d1 := HBA.out.b3.cell 1; have d2 := HBA.out.b3.cell 2; have y0 := HBA.out.b3.frozen 0; have y1 := HBA.out.b3.frozen 1; have y2 := HBA.out.b3.frozen 2
  refine tk 3 8 (mf 7 4) hHeld ?_
  refine tk 4 9 (mf 7 5) hHeld ?_
  refine wpAnyJ_oneL (k := 5) (mf 7 6) (by kernel_rfl) (by kernel_rfl) rfl (fun K hK => ?_)
  go_simp
  refine hK.out _ _ (fun h => by cases h) (fun _ => ?_)
  try clear hHeld
  clear hK K
  refine wpAnyJ_oneL (k := 6) (mf 7 7) (by kernel_rfl) (by kernel_rfl) rfl (fun K hK => ?_)
  go_simp
  refine hK.out _ _ (fun h => by cases h) (fun _ => ?_)
  try clear hHeld
  clear hK K
  refine wpAnyJ_done (by kernel_rfl) ?_ _
  have HE := Lib.hid (HBA.out.fin (x := .int .i64 co) (y := .slice Al nl cl) (z := .slice Ap np cp))
  have HSO : Hid (SoAt (((wa.setCell ⟨w.heap.size + 3, 0, none⟩ (.int .i64 co)).setCell ⟨w.heap.size + 3, 1, none⟩ (.slice Al nl cl)).setCell ⟨w.heap.size + 3, 2, none⟩ (.slice Ap np cp)) (some ⟨WD.heap.size, 0, none⟩) (some ⟨bs, os, none⟩) Al Ap 1 1 n c nl cl np cp ⟨[8], ⟨s, ls, pr⟩, false⟩) := ⟨sl_blk1 (blk_far3 HVA.out hqq), (HH.out.below HE.out.2).hs, (HH.out.below HE.out.2).hl, (HH.out.below HE.out.2).hp⟩
  clear d0 d1 d2 y0 y1 y2
  go_wp2_with fail
  generalize World.setCell (World.setCell (World.setCell wa _ _) _ _) _ _ = z at *
  have q0 := HE.out.1.c0
  have q1 := HE.out.1.c1
  have q2 := HE.out.1.c2
  exact bodyPost_ret (v := .tuple #[.slice (some ⟨WD.heap.size, 0, none⟩) 1 1, .slice (some ⟨bs, os, none⟩) n c, .agg #[.int .i64 co, .slice Al nl cl, .slice Ap np cp], .bool false]) (by simp [results, Tryz.results71, go_sem, q0, q1, q2]) rfl ⟨_, _, _, _, _, _, _, _, _, _, _, _, by rw [HT.out], by rw [HT.out]; exact HSO, ⟨.inr (fun b off e => by injection e with e; injection e with e1 e2; rw [← e1]; exact HBD.out.bl.size), .inl ⟨rfl, rfl⟩, .inl ⟨rfl, rfl⟩, .inl ⟨rfl, rfl⟩⟩, HE.out.2⟩
 have q1 : (sv != p) = false := by simpa using hpq
 have HPQ : Hid (¬ s.getD (i : Int).toNat 0 ≠ p) := by unfold Hid; rw [HSV.out]; simp [hpq]
 clear hpq
 have HT : Hid (smTo ns ds co ⟨s, ls, pr⟩ ⟨6, i, no, p, q⟩ = ⟨[], ⟨s, ls, pr⟩, true⟩) := by unfold Hid; rw [smTo6, if_neg HPQ.out]
 go_upto_region 19 with (fail)
 clear q1 k0 k1 g0 g1 g2 s0 s1 s2 s3 s4
 have HG1 := Lib.hid HBD.out.b1
 have d0 := HBD.out.b3.cell 0; have d1 := HBD.out.b3.cell 1; have d2 := HBD.out.b3.cell 2; have y0 := HBD.out.b3.frozen 0; have y1 := HBD.out.b3.frozen 1; have y2 := HBD.out.b3.frozen 2
 refine wp_region_J (S := fun W' => W'.cell? ⟨w.heap.size + 1, 0, none⟩ = some (.int .i64 co) ∧ W'.cell? ⟨w.heap.size + 1, 1, none⟩ = some (.slice Al nl cl) ∧ W'.cell? ⟨w.heap.size + 1, 2, none⟩ = some (.slice Ap np cp)) (J := [4, 5]) (by kernel_rfl) ?_ (fun hHeld => ?_)
 ·exact ⟨HG1.out.cell 0, HG1.out.cell 1, HG1.out.cell 2⟩
 try dsimp only at hHeld
 refine tk 0 89 (mf 6 1) hHeld ?_
 refine tk 1 90 (mf 6 2) hHeld ?_
 refine tk 2 8 (mf 6 3) hHeld ?_
 refine tk 3 9 (mf 6 4) hHeld ?_
 refine wpAnyJ_oneL (k := 4) (mf 6 5) (by kernel_rfl) (by kernel_rfl) rfl (fun K hK => ?_)
 go_simp
 refine hK.out _ _ (fun h => by cases h) (fun _ => ?_)
 try clear hHeld
 clear hK K
 refine wpAnyJ_oneL (k := 5) (mf 6 6) (by kernel_rfl) (by kernel_rfl) rfl (fun K hK => ?_)
 go_simp
 refine hK.out _ _ (fun h => by cases h) (fun _ => ?_)
 try clear hHeld
 clear hK K
 refine wpAnyJ_done (by kernel_rfl) ?_ _
 have HE0 := Lib.hid (HBD.out.fin (x := .int .i64 co) (y := .slice Al nl cl) (z := .slice Ap np cp))
 have HE : Hid (Blk (((WD.setCell ⟨w.heap.size + 3, 0, none⟩ (.int .i64 co)).setCell ⟨w.heap.size + 3, 1, none⟩ (.slice Al nl cl)).setCell ⟨w.heap.size + 3, 2, none⟩ (.slice Ap np cp)).drew (w.heap.size + 3) 37 #[.int .i64 co, .slice Al nl cl, .slice Ap np cp] ∧ Below w.heap.size w (((WD.setCell ⟨w.heap.size + 3, 0, none⟩ (.int .i64 co)).setCell ⟨w.heap.size + 3, 1, none⟩ (.slice Al nl cl)).setCell ⟨w.heap.size + 3, 2, none⟩ (.slice Ap np cp)).drew) := ⟨HE0.out.1, HE0.out.2.drew⟩
 have HSO : Hid (SoAt (((WD.setCell ⟨w.heap.size + 3, 0, none⟩ (.int .i64 co)).setCell ⟨w.heap.size + 3, 1, none⟩ (.slice Al nl cl)).setCell ⟨w.heap.size + 3, 2, none⟩ (.slice Ap np cp)).drew none (some ⟨bs, os, none⟩) Al Ap 0 0 n c nl cl np cp ⟨[], ⟨s, ls, pr⟩, true⟩) := ⟨Sl.nil _ _ _, (HH.out.below HE.out.2).hs, (HH.out.below HE.out.2).hl, (HH.out.below HE.out.2).hp⟩
 clear d0 d1 d2 y0 y1 y2 HE0
 go_wp2_with fail
 generalize World.drew (World.setCell (World.setCell (World.setCell WD _ _) _ _) _ _) = z at *
 have q0 := HE.out.1.c0
 have q1 := HE.out.1.c1
 have q2 := HE.out.1.c2
 exact bodyPost_ret (v := .tuple #[.slice none 0 0, .slice (some ⟨bs, os, none⟩) n c, .agg #[.int .i64 co, .slice Al nl cl, .slice Ap np cp], .bool true]) (by simp [results, Tryz.results71, go_sem, q0, q1, q2]) rfl ⟨_, _, _, _, _, _, _, _, _, _, _, _, by rw [HT.out], by rw [HT.out]; exact HSO, ⟨.inl ⟨rfl, rfl⟩, .inl ⟨rfl, rfl⟩, .inl ⟨rfl, rfl⟩, .inl ⟨rfl, rfl⟩⟩, HE.out.2⟩
theorem simstep_lock (An Ad As Al Ap : Option Addr) (nn cn nd cd n c nl cl np cp : Nat) (ns : List Nd) (ds : List Dv) (s : List Int) (ls : List Lk) (pr : List Int) (co k d no p q : Int) (w : World) (h : HzMem w An Ad As Al Ap nn cn nd cd n c nl cl np cp ns ds s ls pr) (hok : SmOk ns ds ⟨s, ls, pr⟩) (_hco : 0 ≤ co ∧ co ≤ 7) (hx : spErr ns.length ds.length ⟨k, d, no, p, q⟩ = 0) (hk : k = 3) :
 Calls Tryz.prog 71 #[.agg #[.slice An nn cn, .slice Ad nd cd], .slice As n c, .agg #[.int .i64 co, .slice Al nl cl, .slice Ap np cp], .agg #[.int .i64 k, .int .i64 d, .int .i64 no, .int .i64 p, .int .i64 q]] w (SoPost w As Al Ap n nl np co (smTo ns ds co ⟨s, ls, pr⟩ ⟨k, d, no, p, q⟩)) := by
 have HK := Lib.hid hk
 clear hk
 obtain ⟨hln, hld, hls⟩ := h.ln
 have hlp : pr.length = np := h.hp.len (fun _ => rfl) (by decide)
 have HH := Lib.hid h
 have HB := Lib.hid (Bst.new w #[.slice An nn cn, .slice Ad nd cd] #[.int .i64 co, .slice Al nl cl, .slice Ap np cp] #[.int .i64 k, .int .i64 d, .int .i64 no, .int .i64 p, .int .i64 q])
 obtain ⟨hx1, hx2, hx3, hx4, hx5⟩ := spErr_ok hx
 dsimp only at hx1 hx2 hx3 hx4 hx5
 obtain ⟨hcn, hsl⟩ := stateErr_net hok.s
 have HNK := Lib.hid (NetOk.of hcn)
 have HOK := Lib.hid hok
 have hnn : nn ≤ 32 := by have := HNK.out.nl; omega
 have hnd : nd ≤ 64 := by have := HNK.out.dl; omega
 dsimp only at hsl
 clear h hok hx hcn
 go_enter Tryz.func71, Tryz.ntmps71
 go_upto_region 1 with (fail)
 generalize World.alloc (World.alloc (World.alloc (World.alloc w _) _) _) _ = W at *
 rw [show w.heap.size + 1 + 1 = w.heap.size + 2 from rfl, show w.heap.size + 2 + 1 = w.heap.size + 3 from rfl]
 have HM := Lib.hid (HH.out.below HB.out.bl)
 obtain ⟨⟨k0, k1⟩, ⟨g0, g1, g2⟩, s0, s1, s2, s3, s4⟩ := HB.out.cells
 have hk := HK.out
 clear HK
 subst hk
 have hd2 := hx2 (by decide)
 obtain ⟨i, rfl⟩ := Int.eq_ofNat_of_zero_le hd2.1
 obtain ⟨bs, os, sv, hAs, hbs, hsv, hcs⟩ := HM.out.hs.at1 (show i < n by omega)
 subst hAs
 have HSV : Hid (s.getD (i : Int).toNat 0 = sv) := by unfold Hid; rw [Int.toNat_natCast, List.getD_eq_getElem?_getD, hsv]; rfl
 clear hsv hbs
 have hin : i < n := by omega
 go_upto_region 16 with (fail)
 refine wp_region_J (S := fun W' => (W'.cell? ⟨w.heap.size + 2, 1, none⟩ = some (.int .i64 i) ∧ W'.cell? ⟨w.heap.size + 2, 3, none⟩ = some (.int .i64 p)) ∧ W'.cell? ⟨bs, os + i, none⟩ = some (.int .i64 sv)) (J := []) (by kernel_rfl) ?_ (fun hHeld => ?_)
 ·exact ⟨⟨s1, s3⟩, hcs⟩
 try dsimp only at hHeld
 refine tk 0 75 (mf 8 1) hHeld ?_
 refine tk 1 76 (mf 8 2) hHeld ?_
 refine wpAnyJ_takeL (i := 2) (d := some 77) (v := ?_) (mf 8 3) (by kernel_rfl) rfl rfl (by kernel_rfl) (by kernel_rfl) (by kernel_rfl) (by kernel_rfl) (by kernel_rfl) (fun _ _ _ h => h) (Or.inl ⟨by rfl, ?_⟩) hHeld ?_
 rotate_left
 ·(intro w hSw; (try dsimp only at hSw); have u1 := hSw.1.1; go_simp; try with_reducible rfl)
 try simp only [Act.put, sA, sB, sC]
 refine tk 3 78 (mf 8 4) hHeld ?_
 refine wpAnyJ_takeL (i := 4) (d := some 79) (v := ?_) (mf 8 5) (by kernel_rfl) rfl rfl (by kernel_rfl) (by kernel_rfl) (by kernel_rfl) (by kernel_rfl) (by kernel_rfl) (fun _ _ _ h => h) (Or.inl ⟨by rfl, ?_⟩) hHeld ?_
 rotate_left
 ·(intro w hSw; (try dsimp only at hSw); have u2 := hSw.2; go_simp; try with_reducible rfl)
 try simp only [Act.put, sA, sB, sC]
 refine tk 5 80 (mf 8 6) hHeld ?_
 refine wpAnyJ_takeL (i := 6) (d := some 81) (v := ?_) (mf 8 7) (by kernel_rfl) rfl rfl (by kernel_rfl) (by kernel_rfl) (by kernel_rfl) (by kernel_rfl) (by kernel_rfl) (fun _ _ _ h => h) (Or.inl ⟨by rfl, ?_⟩) hHeld ?_
 rotate_left
 ·(intro w hSw; (try dsimp only at hSw); have u3 := hSw.1.2; go_simp; try with_reducible rfl)
 try simp only [Act.put, sA, sB, sC]
 refine tk 7 82 (mf 8 8) hHeld ?_
 refine wpAnyJ_done (by kernel_rfl) ?_ _
 have HBD := Lib.hid (HB.out.later (Below.refl _ W).drew)
 clear HM k0 k1 g0 g1 g2 s0 s1 s2 s3 s4 hcs
 generalize World.drew W = WD at *
 obtain ⟨⟨k0, k1⟩, ⟨g0, g1, g2⟩, s0, s1, s2, s3, s4⟩ := HBD.out.cells
 by_cases hpq : sv = p; rotate_left
 ·have q1 : (sv != p) = true := by simpa using hpq
  have HT : Hid (smTo ns ds co ⟨s, ls, pr⟩ ⟨3, i, no, p, q⟩ = ⟨[8], ⟨s, ls, pr⟩, false⟩) := by unfold Hid; rw [smTo3]; dsimp only; rw [HSV.out, if_pos hpq]
  clear hpq
  go_upto_region 17 with (fail)
  clear q1 k0 k1 g0 g1 g2 s0 s1 s2 s3 s4
  have HG1 := Lib.hid HBD.out.b1
  have HBLA : Hid (Below WD.heap.size WD (WD.alloc (.cells #[.int .i64 8] 3)).drew) := ((Below.refl WD.heap.size WD).alloc (Nat.le_refl _) (.cells #[.int .i64 8] 3)).drew
  have HBA := Lib.hid (HBD.out.later HBLA.out)
  have HVA : Hid (Blk (WD.alloc (.cells #[.int .i64 8] 3)).drew WD.heap.size 3 #[.int .i64 8]) := Blk.new WD 3 #[.int .i64 8]
  have HGA := Lib.hid (HG1.out.below HBLA.out HG1.out.lt)
  have hqq : WD.heap.size ≠ w.heap.size + 3 := by have := HBD.out.b3.lt; omega
  refine wp_region_J (S := fun W' => W'.cell? ⟨w.heap.size + 1, 0, none⟩ = some (.int .i64 co) ∧ W'.cell? ⟨w.heap.size + 1, 1, none⟩ = some (.slice Al nl cl) ∧ W'.cell? ⟨w.heap.size + 1, 2, none⟩ = some (.slice Ap np cp)) (J := [5, 6]) (by kernel_rfl) ?_ (fun hHeld => ?_)
  ·exact ⟨HG1.out.cell 0, HG1.out.cell 1, HG1.out.cell 2⟩
  try dsimp only at hHeld
  refine tk 1 84 #[ff, tt, ff, ff, ff, ff, ff] hHeld ?_
  refine tk 2 85 #[ff, tt, tt, ff, ff, ff, ff] hHeld ?_
  refine wpAnyJ_oneL (k := 0) (mf 7 3) (by kernel_rfl) (by kernel_rfl) rfl (fun K hK => ?_)
  go_simp
  refine hK.out _ _ (fun _ => ?_) (fun hHeld' => ?_)
  ·exact ⟨HGA.out.cell 0, HGA.out.cell 1, HGA.out.cell 2⟩
  replace hHeld := hHeld' rfl
  clear hHeld' hK K
  try dsimp only at hHeld
  generalize World.drew (World.alloc WD _) = wa at *
  have d0 := HBA.out.b3.cell 0; have d1 := HBA.out.b3.cell 1; have d2 := HBA.out.b3.cell 2; have y0 := HBA.out.b3.frozen 0; have y1 := HBA.out.b3.frozen 1; have y2 := HBA.out.b3.frozen 2
  refine tk 3 8 (mf 7 4) hHeld ?_
  refine tk 4 9 (mf 7 5) hHeld ?_
  refine wpAnyJ_oneL (k := 5) (mf 7 6) (by kernel_rfl) (by kernel_rfl) rfl (fun K hK => ?_)
  go_simp
  refine hK.out _ _ (fun h => by cases h) (fun _ => ?_)
  try clear hHeld
  clear hK K
  refine wpAnyJ_oneL (k := 6) (mf 7 7) (by kernel_rfl) (by kernel_rfl) rfl (fun K hK => ?_)
  go_simp
  refine hK.out _ _ (fun h => by cases h) (fun _ => ?_)
  try clear hHeld
  clear hK K
  refine wpAnyJ_done (by kernel_rfl) ?_ _
  have HE := Lib.hid (HBA.out.fin (x := .int .i64 co) (y := .slice Al nl cl) (z := .slice Ap np cp))
  have HSO : Hid (SoAt (((wa.setCell ⟨w.heap.size + 3, 0, none⟩ (.int .i64 co)).setCell ⟨w.heap.size + 3, 1, none⟩ (.slice Al nl cl)).setCell ⟨w.heap.size + 3, 2, none⟩ (.slice Ap np cp)) (some ⟨WD.heap.size, 0, none⟩) (some ⟨bs, os, none⟩) Al Ap 1 1 n c nl cl np cp ⟨[8], ⟨s, ls, pr⟩, false⟩) := ⟨sl_blk1 (blk_far3 HVA.out hqq), (HH.out.below HE.out.2).hs, (HH.out.below HE.out.2).hl, (HH.out.below HE.out.2).hp⟩
  clear d0 d1 d2 y0 y1 y2
  go_wp2_with fail
  generalize World.setCell (World.setCell (World.setCell wa _ _) _ _) _ _ = z at *
  have q0 := HE.out.1.c0
  have q1 := HE.out.1.c1
  have q2 := HE.out.1.c2
  exact bodyPost_ret (v := .tuple #[.slice (some ⟨WD.heap.size, 0, none⟩) 1 1, .slice (some ⟨bs, os, none⟩) n c, .agg #[.int .i64 co, .slice Al nl cl, .slice Ap np cp], .bool false]) (by simp [results, Tryz.results71, go_sem, q0, q1, q2]) rfl ⟨_, _, _, _, _, _, _, _, _, _, _, _, by rw [HT.out], by rw [HT.out]; exact HSO, ⟨.inr (fun b off e => by injection e with e; injection e with e1 e2; rw [← e1]; exact HBD.out.bl.size), .inl ⟨rfl, rfl⟩, .inl ⟨rfl, rfl⟩, .inl ⟨rfl, rfl⟩⟩, HE.out.2⟩
 have q1 : (sv != p) = false := by simpa using hpq
 have HPQ : Hid (¬ s.getD (i : Int).toNat 0 ≠ p) := by unfold Hid; rw [HSV.out]; simp [hpq]
 clear hpq
 go_upto_region 20 with (fail)
 clear q1
 have HLK := Lib.hid (glocked_any An Ad Al Ap nn cn nd cd nl cl np cp ns ds ls co 3 i no p q WD (HH.out.below HBD.out.bl).la (HH.out.below HBD.out.bl).hn (HH.out.below HBD.out.bl).hd (HH.out.below HBD.out.bl).hl (HH.out.below HBD.out.bl).sn (HH.out.below HBD.out.bl).sd (by decide) HOK.out.l)
 go_wp2_with fail
 clear k0 k1 g0 g1 g2 s0 s1 s2 s3 s4
 refine HLK.out.mono ?_
 rintro e w2 ⟨A, m, cA, rfl, hS, hW, hb⟩
 have HB2 := Lib.hid (HBD.out.later hb.out)
 have HS2 := Lib.hid hS.out
 have HW2 : Hid (Sl w w.heap.size 3 A m cA ((lkdTo ns ds ls ⟨3, i, no, p, q⟩).1.flatMap Lk.cells) ∨ ∀ b off, A = some ⟨b, off, none⟩ → b ≠ w.heap.size + 3) := by
  rcases hW.out with ⟨rfl, rfl, rfl, e⟩ | h
  ·left; rw [e]; exact HH.out.hl
  ·right; intro b off e; have := h b off e; have := HBD.out.b3.lt; omega
 have HWF : Hid (Fre w.heap.size Al A nl m) := by
  rcases hW.out with ⟨h, h2, -⟩ | h
  ·exact .inl ⟨h, h2⟩
  ·exact .inr fun b off e => by have := h b off e; have := HBD.out.bl.size; omega
 clear hS hW hb HLK HBD
 obtain ⟨L, hL⟩ : ∃ L, L = (lkdTo ns ds ls ⟨3, i, no, p, q⟩).1 := ⟨_, rfl⟩
 rw [← hL] at HS2 HW2
 have HLL := Lib.hid hL
 clear hL
 rcases hb2 : (lkdTo ns ds ls ⟨3, i, no, p, q⟩).2 with _ | _
 ·have HLS : Hid (L = ls) := HLL.out.trans (lkd_no ns ds hb2)
  have HT : Hid (smTo ns ds co ⟨s, ls, pr⟩ ⟨3, i, no, p, q⟩ = ⟨[4], ⟨s, ls, pr⟩, true⟩) := by unfold Hid; rw [smTo3, if_neg HPQ.out, hb2]; rfl
  clear hb2
  go_upto_region 21 with (fail)
  have HBV := Lib.hid (HB2.out.later ((Below.refl _ w2).alloc (Nat.le_refl _) (.cells #[.int .i64 co, .slice A m cA, .slice Ap np cp] 37)))
  have HG2 := Lib.hid (Blk.new w2 37 #[.int .i64 co, .slice A m cA, .slice Ap np cp])
  have HBL2 : Hid (Below w2.heap.size w2 (w2.alloc (.cells #[.int .i64 co, .slice A m cA, .slice Ap np cp] 37))) := (Below.refl _ w2).alloc (Nat.le_refl _) _
  generalize World.alloc w2 _ = V at *
  obtain ⟨gb, hgb⟩ : ∃ x, x = w2.heap.size := ⟨_, rfl⟩
  rw [← hgb] at HG2 ⊢
  clear hgb
  go_upto_region 22 with (fail)
  rw [HLS.out] at HS2 HW2
  have HBLA : Hid (Below V.heap.size V (V.alloc (.cells #[.int .i64 4] 3)).drew) := ((Below.refl V.heap.size V).alloc (Nat.le_refl _) (.cells #[.int .i64 4] 3)).drew
  have HBA := Lib.hid (HBV.out.later HBLA.out)
  have HVA : Hid (Blk (V.alloc (.cells #[.int .i64 4] 3)).drew V.heap.size 3 #[.int .i64 4]) := Blk.new V 3 #[.int .i64 4]
  have HGA := Lib.hid (HG2.out.below HBLA.out HG2.out.lt)
  have hqq : V.heap.size ≠ w.heap.size + 3 := by have := HBV.out.b3.lt; omega
  refine wp_region_J (S := fun W' => W'.cell? ⟨gb, 0, none⟩ = some (.int .i64 co) ∧ W'.cell? ⟨gb, 1, none⟩ = some (.slice A m cA) ∧ W'.cell? ⟨gb, 2, none⟩ = some (.slice Ap np cp)) (J := [5, 6]) (by kernel_rfl) ?_ (fun hHeld => ?_)
  ·exact ⟨HG2.out.cell 0, HG2.out.cell 1, HG2.out.cell 2⟩
  try dsimp only at hHeld
  refine tk 1 101 #[ff, tt, ff, ff, ff, ff, ff] hHeld ?_
  refine tk 2 102 #[ff, tt, tt, ff, ff, ff, ff] hHeld ?_
  refine wpAnyJ_oneL (k := 0) (mf 7 3) (by kernel_rfl) (by kernel_rfl) rfl (fun K hK => ?_)
  go_simp
  refine hK.out _ _ (fun _ => ?_) (fun hHeld' => ?_)
  ·exact ⟨HGA.out.cell 0, HGA.out.cell 1, HGA.out.cell 2⟩
  replace hHeld := hHeld' rfl
  clear hHeld' hK K
  try dsimp only at hHeld
  generalize World.drew (World.alloc V _) = wa at *
  have d0 := HBA.out.b3.cell 0; have d1 := HBA.out.b3.cell 1; have d2 := HBA.out.b3.cell 2; have y0 := HBA.out.b3.frozen 0; have y1 := HBA.out.b3.frozen 1; have y2 := HBA.out.b3.frozen 2
  refine tk 3 8 (mf 7 4) hHeld ?_
  refine tk 4 9 (mf 7 5) hHeld ?_
  refine wpAnyJ_oneL (k := 5) (mf 7 6) (by kernel_rfl) (by kernel_rfl) rfl (fun K hK => ?_)
  go_simp
  refine hK.out _ _ (fun h => by cases h) (fun _ => ?_)
  try clear hHeld
  clear hK K
  refine wpAnyJ_oneL (k := 6) (mf 7 7) (by kernel_rfl) (by kernel_rfl) rfl (fun K hK => ?_)
  go_simp
  refine hK.out _ _ (fun h => by cases h) (fun _ => ?_)
  try clear hHeld
  clear hK K
  refine wpAnyJ_done (by kernel_rfl) ?_ _
  have HE := Lib.hid (HBA.out.fin (x := .int .i64 co) (y := .slice A m cA) (z := .slice Ap np cp))
  have HSO : Hid (SoAt (((wa.setCell ⟨w.heap.size + 3, 0, none⟩ (.int .i64 co)).setCell ⟨w.heap.size + 3, 1, none⟩ (.slice A m cA)).setCell ⟨w.heap.size + 3, 2, none⟩ (.slice Ap np cp)) (some ⟨V.heap.size, 0, none⟩) (some ⟨bs, os, none⟩) A Ap 1 1 n c m cA np cp ⟨[4], ⟨s, ls, pr⟩, true⟩) := ⟨sl_blk1 (blk_far3 HVA.out hqq), (HH.out.below HE.out.2).hs, off3 HS2.out HW2.out (HBL2.out.trans (HBLA.out.mono HBL2.out.size)) HE.out.2, (HH.out.below HE.out.2).hp⟩
  clear d0 d1 d2 y0 y1 y2
  go_wp2_with fail
  generalize World.setCell (World.setCell (World.setCell wa _ _) _ _) _ _ = z at *
  have q0 := HE.out.1.c0
  have q1 := HE.out.1.c1
  have q2 := HE.out.1.c2
  exact bodyPost_ret (v := .tuple #[.slice (some ⟨V.heap.size, 0, none⟩) 1 1, .slice (some ⟨bs, os, none⟩) n c, .agg #[.int .i64 co, .slice A m cA, .slice Ap np cp], .bool true]) (by simp [results, Tryz.results71, go_sem, q0, q1, q2]) rfl ⟨_, _, _, _, _, _, _, _, _, _, _, _, by rw [HT.out], by rw [HT.out]; exact HSO, ⟨.inr (fun b off e => by injection e with e; injection e with e1 e2; rw [← e1]; exact HBV.out.bl.size), .inl ⟨rfl, rfl⟩, HWF.out, .inl ⟨rfl, rfl⟩⟩, HE.out.2⟩
 ·have HT : Hid (smTo ns ds co ⟨s, ls, pr⟩ ⟨3, i, no, p, q⟩ = ⟨[], ⟨s, L, pr⟩, true⟩) := by unfold Hid; rw [smTo3, if_neg HPQ.out, hb2, HLL.out]; rfl
  clear hb2
  go_upto_region 21 with (fail)
  have HBV := Lib.hid (HB2.out.later ((Below.refl _ w2).alloc (Nat.le_refl _) (.cells #[.int .i64 co, .slice A m cA, .slice Ap np cp] 37)))
  have HG2 := Lib.hid (Blk.new w2 37 #[.int .i64 co, .slice A m cA, .slice Ap np cp])
  have HBL2 : Hid (Below w2.heap.size w2 (w2.alloc (.cells #[.int .i64 co, .slice A m cA, .slice Ap np cp] 37))) := (Below.refl _ w2).alloc (Nat.le_refl _) _
  generalize World.alloc w2 _ = V at *
  obtain ⟨gb, hgb⟩ : ∃ x, x = w2.heap.size := ⟨_, rfl⟩
  rw [← hgb] at HG2 ⊢
  clear hgb
  go_upto_region 23 with (fail)
  have d0 := HBV.out.b3.cell 0; have d1 := HBV.out.b3.cell 1; have d2 := HBV.out.b3.cell 2; have y0 := HBV.out.b3.frozen 0; have y1 := HBV.out.b3.frozen 1; have y2 := HBV.out.b3.frozen 2
  refine wp_region_J (S := fun W' => W'.cell? ⟨gb, 0, none⟩ = some (.int .i64 co) ∧ W'.cell? ⟨gb, 1, none⟩ = some (.slice A m cA) ∧ W'.cell? ⟨gb, 2, none⟩ = some (.slice Ap np cp)) (J := [4, 5]) (by kernel_rfl) ?_ (fun hHeld => ?_)
  ·exact ⟨HG2.out.cell 0, HG2.out.cell 1, HG2.out.cell 2⟩
  try dsimp only at hHeld
  refine tk 0 103 (mf 6 1) hHeld ?_
  refine tk 1 104 (mf 6 2) hHeld ?_
  refine tk 2 8 (mf 6 3) hHeld ?_
  refine tk 3 9 (mf 6 4) hHeld ?_
  refine wpAnyJ_oneL (k := 4) (mf 6 5) (by kernel_rfl) (by kernel_rfl) rfl (fun K hK => ?_)
  go_simp
  refine hK.out _ _ (fun h => by cases h) (fun _ => ?_)
  try clear hHeld
  clear hK K
  refine wpAnyJ_oneL (k := 5) (mf 6 6) (by kernel_rfl) (by kernel_rfl) rfl (fun K hK => ?_)
  go_simp
  refine hK.out _ _ (fun h => by cases h) (fun _ => ?_)
  try clear hHeld
  clear hK K
  refine wpAnyJ_done (by kernel_rfl) ?_ _
  have HE0 := Lib.hid (HBV.out.fin (x := .int .i64 co) (y := .slice A m cA) (z := .slice Ap np cp))
  have HE : Hid (Blk (((V.setCell ⟨w.heap.size + 3, 0, none⟩ (.int .i64 co)).setCell ⟨w.heap.size + 3, 1, none⟩ (.slice A m cA)).setCell ⟨w.heap.size + 3, 2, none⟩ (.slice Ap np cp)).drew (w.heap.size + 3) 37 #[.int .i64 co, .slice A m cA, .slice Ap np cp] ∧ Below w.heap.size w (((V.setCell ⟨w.heap.size + 3, 0, none⟩ (.int .i64 co)).setCell ⟨w.heap.size + 3, 1, none⟩ (.slice A m cA)).setCell ⟨w.heap.size + 3, 2, none⟩ (.slice Ap np cp)).drew) := ⟨HE0.out.1, HE0.out.2.drew⟩
  have HSO : Hid (SoAt (((V.setCell ⟨w.heap.size + 3, 0, none⟩ (.int .i64 co)).setCell ⟨w.heap.size + 3, 1, none⟩ (.slice A m cA)).setCell ⟨w.heap.size + 3, 2, none⟩ (.slice Ap np cp)).drew none (some ⟨bs, os, none⟩) A Ap 0 0 n c m cA np cp ⟨[], ⟨s, L, pr⟩, true⟩) := ⟨Sl.nil _ _ _, (HH.out.below HE.out.2).hs, off3 HS2.out HW2.out HBL2.out HE0.out.2, (HH.out.below HE.out.2).hp⟩
  clear d0 d1 d2 y0 y1 y2 HE0
  go_wp2_with fail
  generalize World.drew (World.setCell (World.setCell (World.setCell V _ _) _ _) _ _) = z at *
  have q0 := HE.out.1.c0
  have q1 := HE.out.1.c1
  have q2 := HE.out.1.c2
  exact bodyPost_ret (v := .tuple #[.slice none 0 0, .slice (some ⟨bs, os, none⟩) n c, .agg #[.int .i64 co, .slice A m cA, .slice Ap np cp], .bool true]) (by simp [results, Tryz.results71, go_sem, q0, q1, q2]) rfl ⟨_, _, _, _, _, _, _, _, _, _, _, _, by rw [HT.out], by rw [HT.out]; exact HSO, ⟨.inl ⟨rfl, rfl⟩, .inl ⟨rfl, rfl⟩, HWF.out, .inl ⟨rfl, rfl⟩⟩, HE.out.2⟩
end Go.Proofs.YtkkobemhbicjgaaGreatDoor
