import Derived.Test.YtkkobemhbicjgaaGreatDoorE30
import Derived.Test.YtkkobemhbicjgaaGreatDoorE29
set_option maxRecDepth 100000
set_option maxHeartbeats 16000000
namespace Go.Proofs.YtkkobemhbicjgaaGreatDoor
section
open Go.RowKit
def xB (m : List Int) (p : Int) : List Int := m.map fun x => if x = 3 then p else x
def ww (m : List Int) (p : Int) (j : Nat) (l : List Int) : Prop := l.length = m.length ∧ ∀ d, d < m.length → l[d]? = some (if m[d]? = some 3 ∧ zl m d < j then p else m.getD d 0)
section
variable {m l : List Int} {p : Int} {j d : Nat}
theorem ww.start : ww m p 0 m := ⟨rfl, fun d hd => by rw [if_neg (by omega), List.getD_eq_getElem?_getD, List.getElem?_eq_getElem hd]; rfl⟩
theorem ww.step (h : ww m p j l) (hd : (xO m m.length)[j]? = some d) : ww m p (j + 1) (l.set d p) := by
 obtain ⟨h3, hlt, hc⟩ := ve m _ _ _ hd
 refine ⟨by simp [h.1], fun e he => ?_⟩
 rw [List.getElem?_set]
 by_cases hde : d = e
 ·subst hde
  rw [if_pos rfl, if_pos (by rw [h.1]; exact he), if_pos ⟨h3, by omega⟩]
 ·rw [if_neg hde, h.2 e he]
  congr 1
  by_cases h3e : m[e]? = some 3
  ·have : zl m e ≠ j := fun hh => hde (px h3 h3e (by omega))
   by_cases hlt2 : zl m e < j
   ·rw [if_pos ⟨h3e, hlt2⟩, if_pos ⟨h3e, by omega⟩]
   ·rw [if_neg (fun x => hlt2 x.2), if_neg (fun x => by omega)]
  ·rw [if_neg (fun x => h3e x.1), if_neg (fun x => h3e x.1)]
theorem ww.done (h : ww m p (zl m m.length) l) : l = xB m p := by
 apply List.ext_getElem?
 intro d
 unfold xB
 rw [List.getElem?_map]
 by_cases hd : d < m.length
 ·rw [h.2 d hd, List.getD_eq_getElem?_getD, List.getElem?_eq_getElem hd]
  simp only [Option.map_some, Option.getD_some, Option.some.injEq]
  by_cases h3 : m[d] = 3
  ·rw [if_pos h3, if_pos ⟨h3, qV (by rw [List.getElem?_eq_getElem hd, h3]) hd⟩]
  ·rw [if_neg h3, if_neg (fun x => h3 x.1)]
 ·rw [List.getElem?_eq_none (by rw [h.1]; omega), List.getElem?_eq_none (by omega)]; rfl
end
theorem wW (m : List Int) (p : Int) : (xB m p).length = m.length := List.length_map _
def FiG (W : World) (B1 B0 : Nat) (Ak Au : Option Addr) (ck u cu : Nat) (m : List Int) (p : Int) (n gk : Nat) (iv : Value) (wr : World) : Prop := ∃ (j : Nat) (l : List Int), iv = .int .i64 j ∧ j ≤ n ∧ gk = n - j ∧ Hid (zO wr B0 Ak m.length ck l) ∧ Hid (ww m p j l) ∧ Hid (zO wr B1 Au u cu ((xO m m.length).map (Nat.cast (R := Int)))) ∧ Hid (W.grownBy wr (Value.slice Ak m.length ck).ownBlock)
theorem pm (A : Option Addr) (c B : Nat) (m : List Int) (p : Int) (w : World) (hs : Sl w B 1 A m.length c (zD m)) (hB : B ≤ w.heap.size) (hn : m.length ≤ 1000) : Calls Tryz.prog 188 #[.slice A m.length c, .int .i64 p] w (yx w (xB m p)) := by
 have HS := iD hs
 have HC := iD (yQ A m.length c B m w hs hB (by omega))
 clear hs
 go_enter Tryz.func188, Tryz.ntmps188
 go_wp2_with fail
 refine HC.out.mono ?_
 rintro e w1 ⟨Ak, ck, rfl, hO1, hb1⟩
 go_wp2_with fail
 refine (vL A m.length c B m w1 (HS.out.below hb1.out hB) (Nat.le_trans hB hb1.out.size) (by omega)).mono ?_
 rintro e W ⟨Au, u, cu, rfl, hu, hOu, hb2⟩
 have HB1 := iD (hb1.out.trans (hb2.out.mono hb1.out.size))
 have HOW : Hid (zO W w.heap.size Ak m.length ck m) := hO1.out.later hb2.out
 have hz1 := hb1.out.size
 have HAL : Hid (∀ q, (Value.slice Ak m.length ck).ownBlock = some q → w.heap.size ≤ q ∧ q < w1.heap.size) := hO1.out.lt
 have HFI := iD (ww.start (m := m) (p := p))
 clear hO1 HC hb1 hb2
 have hu1 : u ≤ 1000 := by have := mT m m.length; have := hu.out; omega
 have HGR := iD (yz W (Value.slice Ak m.length ck).ownBlock)
 go_wp2_with fail
 go_loopg [13] u (FiG W w1.heap.size w.heap.size Ak Au ck u cu m p u)
 case atStart => exact ⟨0, m, rfl, Nat.zero_le _, rfl, HOW, HFI, hOu, HGR⟩
 case round =>
  clear HOW HFI hOu HGR
  obtain ⟨j, l, rfl, hj, rfl, hO, hfi, hOu, hgr⟩ := hrel
  by_cases hjt : j < u
  ·obtain ⟨ub, uo, x, rfl, hub, hx, hcu⟩ := hOu.out.sl.at1 hjt
   rw [List.getElem?_map] at hx
   obtain ⟨d, hd, rfl⟩ : ∃ d, (xO m m.length)[j]? = some d ∧ (d : Int) = x := by
    rcases hq : (xO m m.length)[j]? with _ | d
    ·rw [hq] at hx; cases hx
    ·rw [hq] at hx; exact ⟨d, rfl, by injection hx⟩
   have hdm : d < m.length := (ve m _ _ _ hd).2.1
   have HF2 := iD (hfi.out.step hd)
   have HAK := HAL.out
   have HUL := hOu.out.lt
   obtain ⟨gk, y, rfl, hgb, hgl, hy, hcy, hfy, hst⟩ := hO.out.at hdm
   have hgk := (HAK gk rfl).2
   have HSW := iD (hst p)
   have HOU2 := iD (hOu.out.kept (ze wr ⟨gk, d, none⟩ (.int .i64 p)) (zk fun b e => by have := (HUL b e).1; simp; omega))
   have HG2 : Hid (W.grownBy (wr.setCell ⟨gk, d, none⟩ (.int .i64 p)) (Value.slice (some ⟨gk, 0, none⟩) m.length ck).ownBlock) := zM hgr.out (ze wr ⟨gk, d, none⟩ (.int .i64 p))
   clear hx hd hy hst hO hOu hgr HUL HAK
   go_wp2_with fail
   go_roundg (u - (j + 1))
   case rel => exact ⟨j + 1, _, by go_num, by omega, rfl, HSW, HF2, HOU2, HG2⟩
   case measure => omega
  ·obtain rfl : j = u := by omega
   have hjj : decide (j < j) = false := by simp
   have HLQ : Hid (l = xB m p) := by
    have := hfi.out
    rw [hu.out] at this
    exact this.done
   have HBW : Hid (Below w.heap.size w wr) := HB1.out.trans ⟨hgr.out.os, hgr.out.tape, hgr.out.output, hgr.out.size, fun q hq => hgr.out.block q (by have := HB1.out.size; omega) (fun e => by have := (HAL.out q e.symm).1; omega)⟩
   go_wp2_with fail
   go_ret
   rw [HLQ.out] at hO
   exact ⟨Ak, ck, by rw [wW]; rfl, by unfold Hid; rw [wW]; exact hO.out, HBW⟩
theorem ph (A : Option Addr) (c B : Nat) (m : List Int) (w : World) (hs : Sl w B 1 A m.length c (zD m)) (hB : B ≤ w.heap.size) (hn : m.length ≤ 1000) : Calls Tryz.prog 171 #[.slice A m.length c] w (yx w (xB m 2)) := by
 have HC := iD (pm A c B m 2 w hs hB hn)
 clear hs
 go_enter Tryz.func171, Tryz.ntmps171
 go_wp2_with fail
 refine HC.out.mono ?_
 rintro e w1 ⟨A1, c1, rfl, hO, hb⟩
 go_wp2_with fail
 go_ret
 exact ⟨A1, c1, rfl, hO, hb⟩
end
section
open Go.RowKit
open Classical in
noncomputable def vD (ns : List Nd) (ds : List Dv) (m : List Int) (d p co : Int) (ls : List Lk) (pr : List Int) : List Int :=
 match ds[d.toNat]? with
 | some x => [1, 2, 3, 4, 5, 6, 7].filter fun h => decide (hX ns.length ns ds (yM m) (m.getD d.toNat 0) d.toNat p co ls pr x h)
 | none => []
theorem pU {ns : List Nd} {ds : List Dv} {m : List Int} {d p co : Int} {ls : List Lk} {pr : List Int} {x : Dv} (hx : ds[d.toNat]? = some x) (h : Int) :
 h ∈ vD ns ds m d p co ls pr ↔ hX ns.length ns ds (yM m) (m.getD d.toNat 0) d.toNat p co ls pr x h := by
 unfold vD
 rw [hx]
 simp only [List.mem_filter, decide_eq_true_eq]
 constructor
 ·exact fun h => h.2
 ·intro hp
  refine ⟨?_, hp⟩
  obtain ⟨s, -, h1, -⟩ := hp
  have := nH h1
  simp only [List.mem_cons, List.not_mem_nil, or_false]
  omega
theorem jB {ns : List Nd} {ds : List Dv} {m : List Int} {d p co : Int} {ls : List Lk} {pr : List Int} {x : Dv} (hx : ds[d.toNat]? = some x) : gp ns ds m d p co ls pr x (vD ns ds m d p co ls pr) := by
 refine ⟨?_, ?_, fun h => pU hx h⟩
 ·unfold vD; rw [hx]; exact List.Nodup.sublist List.filter_sublist (by decide)
 ·unfold vD; rw [hx]; exact List.Pairwise.sublist List.filter_sublist (by decide)
theorem mC {ns : List Nd} {ds : List Dv} {m : List Int} {d p co : Int} {ls : List Lk} {pr : List Int} {x : Dv} {out : List Int} (hx : ds[d.toNat]? = some x) (h : gp ns ds m d p co ls pr x out) : out = vD ns ds m d p co ls pr :=
 jo.unique h (jB hx)
theorem jC (ns : List Nd) (ds : List Dv) (m : List Int) (d p co : Int) (ls : List Lk) (pr : List Int) : (vD ns ds m d p co ls pr).length ≤ 7 := by
 unfold vD
 split
 ·exact Nat.le_trans (List.length_filter_le _ _) (by decide)
 ·exact Nat.zero_le _
def rF (m p : Int) : Bool := !decide (m = p) && !decide (m = 3)
def uR (m p : Int) : List Int := if m = p then [] else [8]
structure Co where
 e : Int
 h : List Int
 t : Sm
 ov : Bool
noncomputable def zu (ns : List Nd) (ds : List Dv) (co : Int) (t : Sm) (x : Sp) : Co :=
 if x.kind = 1 ∨ x.kind = 2 then ⟨yL t.s, vD ns ds t.s x.dev x.kind co t.ls t.pr, ⟨t.s.set x.dev.toNat x.kind, t.ls, if vX ds x.kind x.dev then [] else t.pr⟩, false⟩
 else if x.kind = 5 then (if lvB (zh ns.length ds (xB t.s 2)) x.node then ⟨0, [8], t, false⟩ else ⟨0, [], ⟨t.s, t.ls, yr t.pr x.node⟩, false⟩)
 else if x.kind = 4 then (if (zX ns ds t.ls x).2 then ⟨0, [], ⟨t.s, (zX ns ds t.ls x).1, t.pr⟩, false⟩ else ⟨0, [4], t, false⟩)
 else if rF (t.s.getD x.dev.toNat 0) x.pos then ⟨0, [8], t, true⟩
 else if x.kind = 6 then ⟨0, uR (t.s.getD x.dev.toNat 0) x.pos, ⟨t.s.set x.dev.toNat x.pos, t.ls, t.pr⟩, false⟩
 else if (zX ns ds t.ls x).2 then ⟨0, uR (t.s.getD x.dev.toNat 0) x.pos, ⟨t.s.set x.dev.toNat x.pos, (zX ns ds t.ls x).1, t.pr⟩, false⟩
 else ⟨0, 4 :: uR (t.s.getD x.dev.toNat 0) x.pos, ⟨t.s.set x.dev.toNat x.pos, t.ls, t.pr⟩, false⟩
section
variable {ns : List Nd} {ds : List Dv} {co : Int} {t : Sm} {x : Sp}
theorem jg (hk : x.kind = 1 ∨ x.kind = 2) : zu ns ds co t x = ⟨yL t.s, vD ns ds t.s x.dev x.kind co t.ls t.pr, ⟨t.s.set x.dev.toNat x.kind, t.ls, if vX ds x.kind x.dev then [] else t.pr⟩, false⟩ := by unfold zu; rw [if_pos hk]
theorem jh (hk : x.kind = 5) : zu ns ds co t x = if lvB (zh ns.length ds (xB t.s 2)) x.node then ⟨0, [8], t, false⟩ else ⟨0, [], ⟨t.s, t.ls, yr t.pr x.node⟩, false⟩ := by
 unfold zu; rw [if_neg (by omega), if_pos hk]
theorem ji (hk : x.kind = 4) : zu ns ds co t x = if (zX ns ds t.ls x).2 then ⟨0, [], ⟨t.s, (zX ns ds t.ls x).1, t.pr⟩, false⟩ else ⟨0, [4], t, false⟩ := by
 unfold zu; rw [if_neg (by omega), if_neg (by omega), if_pos hk]
theorem sc (hk : x.kind = 3 ∨ x.kind = 6) : zu ns ds co t x = if rF (t.s.getD x.dev.toNat 0) x.pos then ⟨0, [8], t, true⟩
 else if x.kind = 6 then ⟨0, uR (t.s.getD x.dev.toNat 0) x.pos, ⟨t.s.set x.dev.toNat x.pos, t.ls, t.pr⟩, false⟩
 else if (zX ns ds t.ls x).2 then ⟨0, uR (t.s.getD x.dev.toNat 0) x.pos, ⟨t.s.set x.dev.toNat x.pos, (zX ns ds t.ls x).1, t.pr⟩, false⟩
 else ⟨0, 4 :: uR (t.s.getD x.dev.toNat 0) x.pos, ⟨t.s.set x.dev.toNat x.pos, t.ls, t.pr⟩, false⟩ := by
 unfold zu; rw [if_neg (by omega), if_neg (by omega), if_neg (by omega)]
end
structure Cr where
 e : Int
 o : List Fn
 t : Sm
noncomputable def zf (ns : List Nd) (ds : List Dv) (co : Int) : Nat → List Fn → Sm → List Sp → Cr
 | _, out, t, [] => ⟨0, out, t⟩
 | i, out, t, x :: r =>
  if (zu ns ds co t x).e ≠ 0 then ⟨(zu ns ds co t x).e, [], ⟨[], [], []⟩⟩
  else if (zu ns ds co t x).ov then ⟨0, out ++ zi i (zu ns ds co t x).h, (zu ns ds co t x).t⟩
  else zf ns ds co (i + 1) (out ++ zi i (zu ns ds co t x).h) (zu ns ds co t x).t r
def yn (ns : List Nd) (ds : List Dv) (m : List Int) (co : Int) (ls : List Lk) (pr : List Int) (nm : ByteArray) (xs : List Sp) : Int :=
 if zU ns ds m ≠ 0 then zU ns ds m else if zy ns ds co ls pr ≠ 0 then zy ns ds co ls pr else yf ns ds nm xs
structure wX (ns : List Nd) (ds : List Dv) (t : Sm) : Prop where
 s : zU ns ds t.s = 0
 l : zK ns ds t.ls = 0
 p : yi ns.length (-1) t.pr = true
theorem jj {ns : List Nd} {ds : List Dv} {m : List Int} {co : Int} {ls : List Lk} {pr : List Int} {nm : ByteArray} {xs : List Sp} (h : yn ns ds m co ls pr nm xs = 0) :
 wX ns ds ⟨m, ls, pr⟩ ∧ (0 ≤ co ∧ co ≤ 7) ∧ xs.length ≤ 64 ∧ zo ns.length ds.length xs = 0 := by
 unfold yn at h
 split at h
 ·next h1 => exact absurd h h1
 next h1 =>
 split at h
 ·next h2 => exact absurd h h2
 next h2 =>
 have h2 : zy ns ds co ls pr = 0 := by simpa using h2
 unfold zy at h2
 split at h2
 ·cases h2
 next g1 =>
 split at h2
 ·next g2 => exact absurd h2 g2
 next g2 =>
 split at h2
 ·cases h2
 next g3 =>
 unfold yf at h
 split at h
 ·next h3 => exact absurd h h3
 split at h
 ·cases h
 split at h
 ·cases h
 next h5 => exact ⟨⟨by simpa using h1, by simpa using g2, by simpa using g3⟩, by omega, by omega, h⟩
theorem wE {ns : List Nd} {ds : List Dv} {s : List Int} {i : Nat} {v : Int} (h : zU ns ds s = 0) (hv : v = 1 ∨ v = 2) : zU ns ds (s.set i v) = 0 := by
 unfold zU at h ⊢
 split at h
 ·next h1 => exact absurd h h1
 next h1 =>
 rw [if_neg h1]
 split at h
 ·cases h
 next h2 =>
 rw [if_neg (by simpa using h2)]
 split at h
 ·next h3 =>
  rw [if_pos]
  intro p hp
  rcases List.mem_or_eq_of_mem_set hp with hp | rfl
  ·exact h3 p hp
  ·unfold zj; rcases hv with rfl | rfl <;> simp
 ·cases h
theorem pZ {ns : List Nd} {ds : List Dv} {ls : List Lk} (x : Sp) (hc : za ns ds = 0) (h : zK ns ds ls = 0) : zK ns ds (zX ns ds ls x).1 = 0 := by
 unfold zX
 split
 ·split
  ·exact h
  ·next h0 => exact xo hc (add_zero (by simpa using h0))
 ·split
  ·exact h
  ·exact xo hc (pj (ym h) (List.eraseIdx_sublist _ _))
theorem vo {ns : List Nd} {ds : List Dv} {co : Int} {t : Sm} {x : Sp} (h : wX ns ds t) (hx : zT ns.length ds.length x = 0) : wX ns ds (zu ns ds co t x).t := by
 obtain ⟨h1, h2, h3, h4, h5⟩ := yE hx
 have hc := (zV h.s).1
 unfold zu
 split
 ·next hk => exact ⟨wE h.s hk, h.l, by dsimp only; split <;> first | rfl | exact h.p⟩
 next k12 =>
 split
 ·next hk =>
  split
  ·exact h
  ·exact ⟨h.s, h.l, rR h.p (h3 hk).1 (h3 hk).2⟩
 next k5 =>
 split
 ·split
  ·exact ⟨h.s, pZ x hc h.l, h.p⟩
  ·exact h
 next k4 =>
 have hp := h4 (by omega)
 split
 ·exact h
 split
 ·exact ⟨wE h.s hp, h.l, h.p⟩
 split
 ·exact ⟨wE h.s hp, pZ x hc h.l, h.p⟩
 ·exact ⟨wE h.s hp, h.l, h.p⟩
theorem qY {ns : List Nd} {ds : List Dv} {m : List Int} (h : zU ns ds m = 0) (hd : ds.length ≤ 8) : yL m = 0 := by
 obtain ⟨h1, h2, h3⟩ := zV h
 unfold yL
 rw [if_pos (by simpa [List.all_eq_true] using h3), if_neg]
 have := mT m m.length
 omega
theorem mD {ns : List Nd} {ds : List Dv} {m : List Int} (hm : zU ns ds m = 0) {i : Nat} (hi : i < m.length) : m[i]? = some 1 ∨ m[i]? = some 2 ∨ m[i]? = some 3 := by
 have h := (zV hm).2.2 _ (List.getElem_mem hi)
 unfold zj at h
 simp only [Bool.and_eq_true, decide_eq_true_eq] at h
 rw [List.getElem?_eq_getElem hi]
 simp only [Option.some.injEq]
 omega
theorem iX {s : List Int} {i : Nat} {y : Int} (h : s[i]? = some y) : s.getD i 0 = y := by rw [List.getD_eq_getElem?_getD, h]; rfl
theorem gQ {s : List Int} {i : Nat} {y : Int} (h : s[i]? = some y) : s.set i y = s := by
 refine List.ext_getElem? fun k => ?_
 rw [List.getElem?_set]
 by_cases e : i = k
 ·subst e; rw [if_pos rfl, h, if_pos (List.getElem?_eq_some_iff.1 h).1]
 ·rw [if_neg e]
theorem oC {ns : List Nd} {ds : List Dv} {co : Int} {xs : List Sp} {i : Nat} {out : List Fn} {t : Sm} {x : Sp} (hx : xs[i]? = some x) (he : (zu ns ds co t x).e = 0) (ho : (zu ns ds co t x).ov = false) :
 zf ns ds co i out t (xs.drop i) = zf ns ds co (i + 1) (out ++ zi i (zu ns ds co t x).h) (zu ns ds co t x).t (xs.drop (i + 1)) := by
 obtain ⟨hi, rfl⟩ := List.getElem?_eq_some_iff.mp hx
 rw [List.drop_eq_getElem_cons hi, zf, if_neg (by simp [he]), if_neg (by simp [ho])]
theorem ll {ns : List Nd} {ds : List Dv} {co : Int} {xs : List Sp} {i : Nat} {out : List Fn} {t : Sm} {x : Sp} (hx : xs[i]? = some x) (he : (zu ns ds co t x).e ≠ 0) :
 zf ns ds co i out t (xs.drop i) = ⟨(zu ns ds co t x).e, [], ⟨[], [], []⟩⟩ := by
 obtain ⟨hi, rfl⟩ := List.getElem?_eq_some_iff.mp hx
 rw [List.drop_eq_getElem_cons hi, zf, if_pos he]
theorem nT {ns : List Nd} {ds : List Dv} {co : Int} {xs : List Sp} {i : Nat} {out : List Fn} {t : Sm} {x : Sp} (hx : xs[i]? = some x) (he : (zu ns ds co t x).e = 0) (ho : (zu ns ds co t x).ov = true) :
 zf ns ds co i out t (xs.drop i) = ⟨0, out ++ zi i (zu ns ds co t x).h, (zu ns ds co t x).t⟩ := by
 obtain ⟨hi, rfl⟩ := List.getElem?_eq_some_iff.mp hx
 rw [List.drop_eq_getElem_cons hi, zf, if_neg (by simp [he]), if_pos ho]
theorem lm {ns : List Nd} {ds : List Dv} {co : Int} {xs : List Sp} {i : Nat} {out : List Fn} {t : Sm} (hx : xs.length ≤ i) : zf ns ds co i out t (xs.drop i) = ⟨0, out, t⟩ := by
 rw [List.drop_eq_nil_of_le hx, zf]
end
section
open Go.RowKit
section
variable (ns : List Nd) (ds : List Dv) (co : Int) (t : Sm) (d v p q : Int)
theorem nu {k : Int} (hk : k = 1 ∨ k = 2) : zd ns ds co t ⟨k, d, v, p, q⟩ = ⟨hzD ns ds t.s d k co t.ls t.pr, ⟨t.s.set d.toNat k, t.ls, if vX ds k d then [] else t.pr⟩, true⟩ := by unfold zd; rw [if_pos hk]
theorem gF : zd ns ds co t ⟨5, d, v, p, q⟩ = if lvB (zh ns.length ds t.s) v then ⟨[8], t, true⟩ else ⟨[], ⟨t.s, t.ls, yr t.pr v⟩, true⟩ := by unfold zd; rw [if_neg (by simp), if_pos rfl]
theorem gE : zd ns ds co t ⟨6, d, v, p, q⟩ = if t.s.getD d.toNat 0 ≠ p then ⟨[8], t, false⟩ else ⟨[], t, true⟩ := by
 unfold zd; rw [if_neg (by simp), if_neg (by simp), if_neg (by simp)]; rfl
theorem fp (ls : List Lk) : zX ns ds ls ⟨4, d, v, p, q⟩ = match wQ d q ls with
 | none => (ls, false)
 | some i => (ls.eraseIdx i, true) := by unfold zX; rw [if_neg (by simp)] <;> rfl
theorem fq (ls : List Lk) : zX ns ds ls ⟨3, d, v, p, q⟩ = if zw ns ds ls ⟨d, p, q⟩ ≠ 0 then (ls, false) else (wP ⟨d, p, q⟩ ls, true) := by unfold zX; rw [if_pos rfl]
theorem gG : zd ns ds co t ⟨4, d, v, p, q⟩ = if (zX ns ds t.ls ⟨4, d, v, p, q⟩).2 then ⟨[], ⟨t.s, (zX ns ds t.ls ⟨4, d, v, p, q⟩).1, t.pr⟩, true⟩ else ⟨[4], t, true⟩ := by
 have e : zd ns ds co t ⟨4, d, v, p, q⟩ = match wQ d q t.ls with
  | none => ⟨[4], t, true⟩
  | some i => ⟨[], ⟨t.s, t.ls.eraseIdx i, t.pr⟩, true⟩ := by
  unfold zd; rw [if_neg (by simp), if_neg (by simp), if_pos rfl]; rfl
 rw [e, fp]
 rcases wQ d q t.ls with _ | i <;> rfl
theorem kN : zd ns ds co t ⟨3, d, v, p, q⟩ = if t.s.getD d.toNat 0 ≠ p then ⟨[8], t, false⟩ else if (zX ns ds t.ls ⟨3, d, v, p, q⟩).2 then ⟨[], ⟨t.s, (zX ns ds t.ls ⟨3, d, v, p, q⟩).1, t.pr⟩, true⟩ else ⟨[4], t, true⟩ := by
 rw [fq]
 unfold zd; rw [if_neg (by simp), if_neg (by simp), if_neg (by simp)]
 dsimp only
 by_cases h : t.s.getD d.toNat 0 ≠ p
 ·rw [if_pos h, if_pos h]
 ·rw [if_neg h, if_neg h, if_neg (by simp)]
  by_cases h2 : zw ns ds t.ls ⟨d, p, q⟩ ≠ 0
  ·rw [if_pos h2, if_pos h2]; rfl
  ·rw [if_neg h2, if_neg h2]; rfl
theorem qM {ls : List Lk} {x : Sp} (h : (zX ns ds ls x).2 = false) : (zX ns ds ls x).1 = ls := by
 unfold zX at h ⊢
 split at h
 ·next h1 =>
  rw [if_pos h1]
  split at h
  ·next h2 => rw [if_pos h2]
  ·cases h
 ·next h1 =>
  rw [if_neg h1]
  split at h
  ·rfl
  ·cases h
end
structure yZ (w : World) (A1 A2 Al Ap : Option Addr) (n1 c1 n2 c2 nl cl np cp : Nat) (o : So) : Prop where
 h : Sl w w.heap.size 1 A1 n1 c1 (zD o.h)
 s : Sl w w.heap.size 1 A2 n2 c2 (zD o.t.s)
 l : Sl w w.heap.size 3 Al nl cl (o.t.ls.flatMap Lk.cells)
 p : Sl w w.heap.size 1 Ap np cp (zD o.t.pr)
def Fre (B : Nat) (A A' : Option Addr) (n n' : Nat) : Prop := A' = A ∧ n' = n ∨ ∀ b off, A' = some ⟨b, off, none⟩ → B ≤ b
def uO (w : World) (As Al0 Ap0 : Option Addr) (n nl0 np0 : Nat) (co : Int) (o : So) (e : Ending) (w' : World) : Prop :=
 ∃ (A1 A2 Al Ap : Option Addr) (n1 c1 n2 c2 nl cl np cp : Nat), e = .returned (.tuple #[.slice A1 n1 c1, .slice A2 n2 c2, .agg #[.int .i64 co, .slice Al nl cl, .slice Ap np cp], .bool o.ok]) ∧ Hid (yZ w' A1 A2 Al Ap n1 c1 n2 c2 nl cl np cp o) ∧ Hid (Fre w.heap.size none A1 0 n1 ∧ Fre w.heap.size As A2 n n2 ∧ Fre w.heap.size Al0 Al nl0 nl ∧ Fre w.heap.size Ap0 Ap np0 np) ∧ Hid (Below w.heap.size w w')
theorem iM {w w2 wa : World} {size n c x : Nat} {A : Option Addr} {xs : List Value} {a b d : Value} (h : Sl w2 w2.heap.size size A n c xs) (ho : Sl w w.heap.size size A n c xs ∨ ∀ b off, A = some ⟨b, off, none⟩ → b ≠ x) (hb : Below w2.heap.size w2 wa) (hz : Below w.heap.size w (((wa.setCell ⟨x, 0, none⟩ a).setCell ⟨x, 1, none⟩ b).setCell ⟨x, 2, none⟩ d)) : Sl (((wa.setCell ⟨x, 0, none⟩ a).setCell ⟨x, 1, none⟩ b).setCell ⟨x, 2, none⟩ d) (((wa.setCell ⟨x, 0, none⟩ a).setCell ⟨x, 1, none⟩ b).setCell ⟨x, 2, none⟩ d).heap.size size A n c xs := by
 rcases ho with ho | ho
 ·exact (ho.below hz lR).more hz.size
 ·exact sl3 ((h.below hb lR).more hb.size) ho
theorem xj {z : World} {bq : Nat} {v : Int} (hv : Blk z bq 3 #[.int .i64 v]) : Sl z z.heap.size 1 (some ⟨bq, 0, none⟩) 1 1 (zD [v]) :=
 ⟨rfl, Nat.le_refl _, by decide, (fun e => by cases e), fun _ => ⟨bq, 0, rfl, hv.lt, fun j u hu => by rw [Nat.zero_add, hv.cell]; simpa [zD] using hu⟩⟩
theorem yG {w : World} {g x : Nat} {t : TypeId} {cs : Array Value} {a b d : Value} (h : Blk w g t cs) (hg : g ≠ x) : Blk (((w.setCell ⟨x, 0, none⟩ a).setCell ⟨x, 1, none⟩ b).setCell ⟨x, 2, none⟩ d) g t cs := ((h.far (p := ⟨x, 0, none⟩) hg a).far (p := ⟨x, 1, none⟩) hg b).far (p := ⟨x, 2, none⟩) hg d
theorem Bst.cells {w wr : World} {An Ad Al Ap : Option Addr} {nn cn nd cd nl cl np cp : Nat} {co k d no p q : Int} (h : Bst w #[.slice An nn cn, .slice Ad nd cd] #[.int .i64 co, .slice Al nl cl, .slice Ap np cp] #[.int .i64 k, .int .i64 d, .int .i64 no, .int .i64 p, .int .i64 q] wr) :
 (wr.cell? ⟨w.heap.size, 0, none⟩ = some (.slice An nn cn) ∧ wr.cell? ⟨w.heap.size, 1, none⟩ = some (.slice Ad nd cd)) ∧ (wr.cell? ⟨w.heap.size + 1, 0, none⟩ = some (.int .i64 co) ∧ wr.cell? ⟨w.heap.size + 1, 1, none⟩ = some (.slice Al nl cl) ∧ wr.cell? ⟨w.heap.size + 1, 2, none⟩ = some (.slice Ap np cp)) ∧ wr.cell? ⟨w.heap.size + 2, 0, none⟩ = some (.int .i64 k) ∧ wr.cell? ⟨w.heap.size + 2, 1, none⟩ = some (.int .i64 d) ∧ wr.cell? ⟨w.heap.size + 2, 2, none⟩ = some (.int .i64 no) ∧ wr.cell? ⟨w.heap.size + 2, 3, none⟩ = some (.int .i64 p) ∧ wr.cell? ⟨w.heap.size + 2, 4, none⟩ = some (.int .i64 q) :=
 ⟨⟨h.b0.cell 0, h.b0.cell 1⟩, ⟨h.b1.cell 0, h.b1.cell 1, h.b1.cell 2⟩, h.b2.cell 0, h.b2.cell 1, h.b2.cell 2, h.b2.cell 3, h.b2.cell 4⟩
theorem rB (An Ad As Al Ap : Option Addr) (nn cn nd cd n c nl cl np cp : Nat) (ns : List Nd) (ds : List Dv) (s : List Int) (ls : List Lk) (pr : List Int) (co k d no p q : Int) (w : World) (h : yX w An Ad As Al Ap nn cn nd cd n c nl cl np cp ns ds s ls pr) (hok : tJ ns ds ⟨s, ls, pr⟩) (_hco : 0 ≤ co ∧ co ≤ 7) (hx : zT ns.length ds.length ⟨k, d, no, p, q⟩ = 0) (hk : k = 5) :
 Calls Tryz.prog 71 #[.agg #[.slice An nn cn, .slice Ad nd cd], .slice As n c, .agg #[.int .i64 co, .slice Al nl cl, .slice Ap np cp], .agg #[.int .i64 k, .int .i64 d, .int .i64 no, .int .i64 p, .int .i64 q]] w (uO w As Al Ap n nl np co (zd ns ds co ⟨s, ls, pr⟩ ⟨k, d, no, p, q⟩)) := by
 have HK := iD hk
 clear hk
 obtain ⟨hln, hld, hls⟩ := h.ln
 have hlp : pr.length = np := h.hp.len (fun _ => rfl) (by decide)
 have HH := iD h
 have HB := iD (Bst.new w #[.slice An nn cn, .slice Ad nd cd] #[.int .i64 co, .slice Al nl cl, .slice Ap np cp] #[.int .i64 k, .int .i64 d, .int .i64 no, .int .i64 p, .int .i64 q])
 obtain ⟨hx1, hx2, hx3, hx4, hx5⟩ := yE hx
 dsimp only at hx1 hx2 hx3 hx4 hx5
 obtain ⟨hcn, hsl⟩ := zp hok.s
 have HNK := iD (yt.of hcn)
 have HOK := iD hok
 have hnn : nn ≤ 32 := by have := HNK.out.nl; omega
 have hnd : nd ≤ 64 := by have := HNK.out.dl; omega
 dsimp only at hsl
 clear h hok hx hcn
 go_enter Tryz.func71, Tryz.ntmps71
 go_upto_region 1 with (fail)
 generalize World.alloc (World.alloc (World.alloc (World.alloc w _) _) _) _ = W at *
 rw [show w.heap.size + 1 + 1 = w.heap.size + 2 from rfl, show w.heap.size + 2 + 1 = w.heap.size + 3 from rfl]
 have HM := iD (HH.out.below HB.out.bl)
 obtain ⟨⟨k0, k1⟩, ⟨g0, g1, g2⟩, s0, s1, s2, s3, s4⟩ := HB.out.cells
 have hk := HK.out
 clear HK
 subst hk
 have hlt := hx3 rfl
 obtain ⟨v, rfl⟩ := Int.eq_ofNat_of_zero_le hlt.1
 have hv : v < nn := by omega
 go_wp2_with fail
 clear k0 k1 g0 g1 g2 s0 s1 s2 s3 s4
 refine (xy An Ad As nn cn nd cd n c W.heap.size W.heap.size ds s W HM.out.hd lR HM.out.hs lR (by omega) (by omega) (by omega) (by have := HNK.out.e; rwa [hln] at this) (by have := HNK.out.a; rwa [hln] at this)).mono ?_
 rintro e w1 ⟨A, B, P, C, rfl, hO1, hO2, hP, hC, hb⟩
 have HB1 := iD (HB.out.later hb.out)
 obtain ⟨g, x, rfl, -, -, hx, hcx, -, -⟩ := hO2.out.at hv
 have HCV : Hid (lvB (zh ns.length ds s) v = xZ x) := by unfold Hid lvB; rw [hln, xn hC.out, List.getD_eq_getElem?_getD]; simp [hx]
 clear hO1 hO2 hP hC hb HB HM hx
 obtain ⟨⟨k0, k1⟩, ⟨g0, g1, g2⟩, s0, s1, s2, s3, s4⟩ := HB1.out.cells
 rcases hlv : xZ x with _ | _
 ·have q1 : (bits .and .i64 x 1 != 0) = false := hlv
  have HT : Hid (zd ns ds co ⟨s, ls, pr⟩ ⟨5, d, v, p, q⟩ = ⟨[], ⟨s, ls, yr pr v⟩, true⟩) := by unfold Hid; rw [gF, HCV.out, hlv]; rfl
  go_upto_region 13 with (fail)
  clear q1 hcx
  go_wp2_with fail
  clear k0 k1 g0 g1 g2 s0 s1 s2 s3 s4
  refine (sH Al Ap nl cl np cp co v pr w1 (HH.out.below HB1.out.bl).hp (by have := uc HOK.out.p; dsimp only at this; omega) (vN _ _ _ |>.mp HOK.out.p).2).mono ?_
  rintro e w2 ⟨A4, n4, c4, rfl, hS, hW, hb⟩
  have HB2 := iD (HB1.out.later hb.out)
  have HS4 := iD hS.out
  have HWH := iD hW.out
  have HLT1 : Hid (w.heap.size + 3 < w1.heap.size) := HB1.out.b3.lt
  have HFA : Hid (Fre w.heap.size Ap A4 np n4) := by
   rcases hW.out with ⟨h, h2, -⟩ | h
   ·exact .inl ⟨h, h2⟩
   ·exact .inr fun b off e => by have := h b off e; have := HB1.out.bl.size; omega
  clear hS hW hb HB1
  have d0 := HB2.out.b3.cell 0
  have d1 := HB2.out.b3.cell 1
  have d2 := HB2.out.b3.cell 2
  have y0 := HB2.out.b3.frozen 0
  have y1 := HB2.out.b3.frozen 1
  have y2 := HB2.out.b3.frozen 2
  have HE := iD (HB2.out.fin (x := .int .i64 co) (y := .slice Al nl cl) (z := .slice A4 n4 c4))
  have HSO : Hid (yZ (((w2.setCell ⟨w.heap.size + 3, 0, none⟩ (.int .i64 co)).setCell ⟨w.heap.size + 3, 1, none⟩ (.slice Al nl cl)).setCell ⟨w.heap.size + 3, 2, none⟩ (.slice A4 n4 c4)) none As Al A4 0 0 n c nl cl n4 c4 ⟨[], ⟨s, ls, yr pr v⟩, true⟩) := by
   refine ⟨Sl.nil _ _ _, (HH.out.below HE.out.2).hs, (HH.out.below HE.out.2).hl, ?_⟩
   rcases HWH.out with ⟨rfl, rfl, rfl, e⟩ | hf
   ·dsimp only; rw [e]; exact (HH.out.below HE.out.2).hp
   ·exact sl3 HS4.out (fun b off e => by have := hf b off e; have := HLT1.out; omega)
  go_wp2_with fail
  clear d0 d1 d2 y0 y1 y2
  generalize World.setCell (World.setCell (World.setCell w2 _ _) _ _) _ _ = z at *
  have q0 := HE.out.1.c0
  have q1 := HE.out.1.c1
  have q2 := HE.out.1.c2
  exact bodyPost_ret (v := .tuple #[.slice none 0 0, .slice As n c, .agg #[.int .i64 co, .slice Al nl cl, .slice A4 n4 c4], .bool true]) (by simp [results, Tryz.results71, go_sem, q0, q1, q2]) rfl ⟨_, _, _, _, _, _, _, _, _, _, _, _, by rw [HT.out], by rw [HT.out]; exact HSO, ⟨.inl ⟨rfl, rfl⟩, .inl ⟨rfl, rfl⟩, .inl ⟨rfl, rfl⟩, HFA.out⟩, HE.out.2⟩
 ·have q1 : (bits .and .i64 x 1 != 0) = true := hlv
  have HT : Hid (zd ns ds co ⟨s, ls, pr⟩ ⟨5, d, v, p, q⟩ = ⟨[8], ⟨s, ls, pr⟩, true⟩) := by unfold Hid; rw [gF, HCV.out, hlv]; rfl
  go_upto_region 12 with (fail)
  clear q1 hcx k0 k1 g0 g1 g2 s0 s1 s2 s3 s4
  have HG1 := iD HB1.out.b1
  have HBLA : Hid (Below w1.heap.size w1 (w1.alloc (.cells #[.int .i64 8] 3)).drew) := ((Below.refl w1.heap.size w1).alloc lR (.cells #[.int .i64 8] 3)).drew
  have HBA := iD (HB1.out.later HBLA.out)
  have HVA : Hid (Blk (w1.alloc (.cells #[.int .i64 8] 3)).drew w1.heap.size 3 #[.int .i64 8]) := Blk.new w1 3 #[.int .i64 8]
  have HGA := iD (HG1.out.below HBLA.out HG1.out.lt)
  have hqq : w1.heap.size ≠ w.heap.size + 3 := by have := HB1.out.b3.lt; omega
  refine zC (S := fun W' => W'.cell? ⟨w.heap.size + 1, 0, none⟩ = some (.int .i64 co) ∧ W'.cell? ⟨w.heap.size + 1, 1, none⟩ = some (.slice Al nl cl) ∧ W'.cell? ⟨w.heap.size + 1, 2, none⟩ = some (.slice Ap np cp)) (J := [5, 6]) (by kernel_rfl) ?_ (fun AA => ?_)
  ·exact ⟨HG1.out.cell 0, HG1.out.cell 1, HG1.out.cell 2⟩
  try dsimp only at AA
  refine tk 1 65 (ma 7 2) AA ?_
  refine tk 2 66 (ma 7 6) AA ?_
  refine tb 0 (mf 7 3) fun K hK => ?_
  go_simp
  refine hK.out _ _ (fun _ => ?_) (fun AA' => ?_)
  ·exact ⟨HGA.out.cell 0, HGA.out.cell 1, HGA.out.cell 2⟩
  replace AA := AA' rfl
  clear AA' hK K
  try dsimp only at AA
  generalize World.drew (World.alloc w1 _) = wa at *
  have d0 := HBA.out.b3.cell 0; have d1 := HBA.out.b3.cell 1; have d2 := HBA.out.b3.cell 2; have y0 := HBA.out.b3.frozen 0; have y1 := HBA.out.b3.frozen 1; have y2 := HBA.out.b3.frozen 2
  refine tk 3 8 (mf 7 4) AA ?_
  refine tk 4 9 (mf 7 5) AA ?_
  refine tb 5 (mf 7 6) fun K hK => ?_
  go_simp
  refine hK.out _ _ (fun h => by cases h) (fun _ => ?_)
  try clear AA
  clear hK K
  refine tb 6 (mf 7 7) fun K hK => ?_
  go_simp
  refine hK.out _ _ (fun h => by cases h) (fun _ => ?_)
  try clear AA
  clear hK K
  refine zA (by kernel_rfl) ?_ _
  have HE := iD (HBA.out.fin (x := .int .i64 co) (y := .slice Al nl cl) (z := .slice Ap np cp))
  have HSO : Hid (yZ (((wa.setCell ⟨w.heap.size + 3, 0, none⟩ (.int .i64 co)).setCell ⟨w.heap.size + 3, 1, none⟩ (.slice Al nl cl)).setCell ⟨w.heap.size + 3, 2, none⟩ (.slice Ap np cp)) (some ⟨w1.heap.size, 0, none⟩) As Al Ap 1 1 n c nl cl np cp ⟨[8], ⟨s, ls, pr⟩, true⟩) := ⟨xj (yG HVA.out hqq), (HH.out.below HE.out.2).hs, (HH.out.below HE.out.2).hl, (HH.out.below HE.out.2).hp⟩
  clear d0 d1 d2 y0 y1 y2
  go_wp2_with fail
  generalize World.setCell (World.setCell (World.setCell wa _ _) _ _) _ _ = z at *
  have q0 := HE.out.1.c0
  have q1 := HE.out.1.c1
  have q2 := HE.out.1.c2
  exact bodyPost_ret (v := .tuple #[.slice (some ⟨w1.heap.size, 0, none⟩) 1 1, .slice As n c, .agg #[.int .i64 co, .slice Al nl cl, .slice Ap np cp], .bool true]) (by simp [results, Tryz.results71, go_sem, q0, q1, q2]) rfl ⟨_, _, _, _, _, _, _, _, _, _, _, _, by rw [HT.out], by rw [HT.out]; exact HSO, ⟨.inr (fun b off e => by injection e with e; injection e with e1 e2; rw [← e1]; exact HB1.out.bl.size), .inl ⟨rfl, rfl⟩, .inl ⟨rfl, rfl⟩, .inl ⟨rfl, rfl⟩⟩, HE.out.2⟩
theorem sF (An Ad As Al Ap : Option Addr) (nn cn nd cd n c nl cl np cp : Nat) (ns : List Nd) (ds : List Dv) (s : List Int) (ls : List Lk) (pr : List Int) (co k d no p q : Int) (w : World) (h : yX w An Ad As Al Ap nn cn nd cd n c nl cl np cp ns ds s ls pr) (hok : tJ ns ds ⟨s, ls, pr⟩) (_hco : 0 ≤ co ∧ co ≤ 7) (hx : zT ns.length ds.length ⟨k, d, no, p, q⟩ = 0) (hk : k = 4) :
 Calls Tryz.prog 71 #[.agg #[.slice An nn cn, .slice Ad nd cd], .slice As n c, .agg #[.int .i64 co, .slice Al nl cl, .slice Ap np cp], .agg #[.int .i64 k, .int .i64 d, .int .i64 no, .int .i64 p, .int .i64 q]] w (uO w As Al Ap n nl np co (zd ns ds co ⟨s, ls, pr⟩ ⟨k, d, no, p, q⟩)) := by
 have HK := iD hk
 clear hk
 obtain ⟨hln, hld, hls⟩ := h.ln
 have hlp : pr.length = np := h.hp.len (fun _ => rfl) (by decide)
 have HH := iD h
 have HB := iD (Bst.new w #[.slice An nn cn, .slice Ad nd cd] #[.int .i64 co, .slice Al nl cl, .slice Ap np cp] #[.int .i64 k, .int .i64 d, .int .i64 no, .int .i64 p, .int .i64 q])
 obtain ⟨hx1, hx2, hx3, hx4, hx5⟩ := yE hx
 dsimp only at hx1 hx2 hx3 hx4 hx5
 obtain ⟨hcn, hsl⟩ := zp hok.s
 have HNK := iD (yt.of hcn)
 have HOK := iD hok
 have hnn : nn ≤ 32 := by have := HNK.out.nl; omega
 have hnd : nd ≤ 64 := by have := HNK.out.dl; omega
 dsimp only at hsl
 clear h hok hx hcn
 go_enter Tryz.func71, Tryz.ntmps71
 go_upto_region 1 with (fail)
 generalize World.alloc (World.alloc (World.alloc (World.alloc w _) _) _) _ = W at *
 rw [show w.heap.size + 1 + 1 = w.heap.size + 2 from rfl, show w.heap.size + 2 + 1 = w.heap.size + 3 from rfl]
 have HM := iD (HH.out.below HB.out.bl)
 obtain ⟨⟨k0, k1⟩, ⟨g0, g1, g2⟩, s0, s1, s2, s3, s4⟩ := HB.out.cells
 have hk := HK.out
 clear HK
 subst hk
 have HLK := iD (wG An Ad Al Ap nn cn nd cd nl cl np cp ns ds ls co 4 d no p q W (HH.out.below HB.out.bl).la (HH.out.below HB.out.bl).hn (HH.out.below HB.out.bl).hd (HH.out.below HB.out.bl).hl (HH.out.below HB.out.bl).sn (HH.out.below HB.out.bl).sd (by decide) HOK.out.l)
 go_wp2_with fail
 clear k0 k1 g0 g1 g2 s0 s1 s2 s3 s4
 refine HLK.out.mono ?_
 rintro e w2 ⟨A, m, cA, rfl, hS, hW, hb⟩
 have HB2 := iD (HB.out.later hb.out)
 have HS2 := iD hS.out
 have HW2 : Hid (Sl w w.heap.size 3 A m cA ((zX ns ds ls ⟨4, d, no, p, q⟩).1.flatMap Lk.cells) ∨ ∀ b off, A = some ⟨b, off, none⟩ → b ≠ w.heap.size + 3) := by
  rcases hW.out with ⟨rfl, rfl, rfl, e⟩ | h
  ·left; rw [e]; exact HH.out.hl
  ·right; intro b off e; have := h b off e; have := HB.out.b3.lt; omega
 have HWF : Hid (Fre w.heap.size Al A nl m) := by
  rcases hW.out with ⟨h, h2, -⟩ | h
  ·exact .inl ⟨h, h2⟩
  ·exact .inr fun b off e => by have := h b off e; have := HB.out.bl.size; omega
 clear hS hW hb HLK HB
 obtain ⟨L, hL⟩ : ∃ L, L = (zX ns ds ls ⟨4, d, no, p, q⟩).1 := ⟨_, rfl⟩
 rw [← hL] at HS2 HW2
 have HLL := iD hL
 clear hL
 rcases hb2 : (zX ns ds ls ⟨4, d, no, p, q⟩).2 with _ | _
 ·have HLS : Hid (L = ls) := HLL.out.trans (qM ns ds hb2)
  have HT : Hid (zd ns ds co ⟨s, ls, pr⟩ ⟨4, d, no, p, q⟩ = ⟨[4], ⟨s, ls, pr⟩, true⟩) := by unfold Hid; rw [gG, hb2]; rfl
  clear hb2
  go_upto_region 21 with (fail)
  have HBV := iD (HB2.out.later ((Below.refl _ w2).alloc lR (.cells #[.int .i64 co, .slice A m cA, .slice Ap np cp] 37)))
  have HG2 := iD (Blk.new w2 37 #[.int .i64 co, .slice A m cA, .slice Ap np cp])
  have HBL2 : Hid (Below w2.heap.size w2 (w2.alloc (.cells #[.int .i64 co, .slice A m cA, .slice Ap np cp] 37))) := (Below.refl _ w2).alloc lR _
  generalize World.alloc w2 _ = V at *
  obtain ⟨gb, hgb⟩ : ∃ x, x = w2.heap.size := ⟨_, rfl⟩
  rw [← hgb] at HG2 ⊢
  clear hgb
  go_upto_region 22 with (fail)
  rw [HLS.out] at HS2 HW2
  have HBLA : Hid (Below V.heap.size V (V.alloc (.cells #[.int .i64 4] 3)).drew) := ((Below.refl V.heap.size V).alloc lR (.cells #[.int .i64 4] 3)).drew
  have HBA := iD (HBV.out.later HBLA.out)
  have HVA : Hid (Blk (V.alloc (.cells #[.int .i64 4] 3)).drew V.heap.size 3 #[.int .i64 4]) := Blk.new V 3 #[.int .i64 4]
  have HGA := iD (HG2.out.below HBLA.out HG2.out.lt)
  have hqq : V.heap.size ≠ w.heap.size + 3 := by have := HBV.out.b3.lt; omega
  refine zC (S := fun W' => W'.cell? ⟨gb, 0, none⟩ = some (.int .i64 co) ∧ W'.cell? ⟨gb, 1, none⟩ = some (.slice A m cA) ∧ W'.cell? ⟨gb, 2, none⟩ = some (.slice Ap np cp)) (J := [5, 6]) (by kernel_rfl) ?_ (fun AA => ?_)
  ·exact ⟨HG2.out.cell 0, HG2.out.cell 1, HG2.out.cell 2⟩
  try dsimp only at AA
  refine tk 1 101 (ma 7 2) AA ?_
  refine tk 2 102 (ma 7 6) AA ?_
  refine tb 0 (mf 7 3) fun K hK => ?_
  go_simp
  refine hK.out _ _ (fun _ => ?_) (fun AA' => ?_)
  ·exact ⟨HGA.out.cell 0, HGA.out.cell 1, HGA.out.cell 2⟩
  replace AA := AA' rfl
  clear AA' hK K
  try dsimp only at AA
  generalize World.drew (World.alloc V _) = wa at *
  have d0 := HBA.out.b3.cell 0; have d1 := HBA.out.b3.cell 1; have d2 := HBA.out.b3.cell 2; have y0 := HBA.out.b3.frozen 0; have y1 := HBA.out.b3.frozen 1; have y2 := HBA.out.b3.frozen 2
  refine tk 3 8 (mf 7 4) AA ?_
  refine tk 4 9 (mf 7 5) AA ?_
  refine tb 5 (mf 7 6) fun K hK => ?_
  go_simp
  refine hK.out _ _ (fun h => by cases h) (fun _ => ?_)
  try clear AA
  clear hK K
  refine tb 6 (mf 7 7) fun K hK => ?_
  go_simp
  refine hK.out _ _ (fun h => by cases h) (fun _ => ?_)
  try clear AA
  clear hK K
  refine zA (by kernel_rfl) ?_ _
  have HE := iD (HBA.out.fin (x := .int .i64 co) (y := .slice A m cA) (z := .slice Ap np cp))
  have HSO : Hid (yZ (((wa.setCell ⟨w.heap.size + 3, 0, none⟩ (.int .i64 co)).setCell ⟨w.heap.size + 3, 1, none⟩ (.slice A m cA)).setCell ⟨w.heap.size + 3, 2, none⟩ (.slice Ap np cp)) (some ⟨V.heap.size, 0, none⟩) As A Ap 1 1 n c m cA np cp ⟨[4], ⟨s, ls, pr⟩, true⟩) := ⟨xj (yG HVA.out hqq), (HH.out.below HE.out.2).hs, iM HS2.out HW2.out (HBL2.out.trans (HBLA.out.mono HBL2.out.size)) HE.out.2, (HH.out.below HE.out.2).hp⟩
  clear d0 d1 d2 y0 y1 y2
  go_wp2_with fail
  generalize World.setCell (World.setCell (World.setCell wa _ _) _ _) _ _ = z at *
  have q0 := HE.out.1.c0
  have q1 := HE.out.1.c1
  have q2 := HE.out.1.c2
  exact bodyPost_ret (v := .tuple #[.slice (some ⟨V.heap.size, 0, none⟩) 1 1, .slice As n c, .agg #[.int .i64 co, .slice A m cA, .slice Ap np cp], .bool true]) (by simp [results, Tryz.results71, go_sem, q0, q1, q2]) rfl ⟨_, _, _, _, _, _, _, _, _, _, _, _, by rw [HT.out], by rw [HT.out]; exact HSO, ⟨.inr (fun b off e => by injection e with e; injection e with e1 e2; rw [← e1]; exact HBV.out.bl.size), .inl ⟨rfl, rfl⟩, HWF.out, .inl ⟨rfl, rfl⟩⟩, HE.out.2⟩
 ·have HT : Hid (zd ns ds co ⟨s, ls, pr⟩ ⟨4, d, no, p, q⟩ = ⟨[], ⟨s, L, pr⟩, true⟩) := by unfold Hid; rw [gG, hb2, HLL.out]; rfl
  clear hb2
  go_upto_region 21 with (fail)
  have HBV := iD (HB2.out.later ((Below.refl _ w2).alloc lR (.cells #[.int .i64 co, .slice A m cA, .slice Ap np cp] 37)))
  have HG2 := iD (Blk.new w2 37 #[.int .i64 co, .slice A m cA, .slice Ap np cp])
  have HBL2 : Hid (Below w2.heap.size w2 (w2.alloc (.cells #[.int .i64 co, .slice A m cA, .slice Ap np cp] 37))) := (Below.refl _ w2).alloc lR _
  generalize World.alloc w2 _ = V at *
  obtain ⟨gb, hgb⟩ : ∃ x, x = w2.heap.size := ⟨_, rfl⟩
  rw [← hgb] at HG2 ⊢
  clear hgb
  go_upto_region 23 with (fail)
  have d0 := HBV.out.b3.cell 0; have d1 := HBV.out.b3.cell 1; have d2 := HBV.out.b3.cell 2; have y0 := HBV.out.b3.frozen 0; have y1 := HBV.out.b3.frozen 1; have y2 := HBV.out.b3.frozen 2
  refine zC (S := fun W' => W'.cell? ⟨gb, 0, none⟩ = some (.int .i64 co) ∧ W'.cell? ⟨gb, 1, none⟩ = some (.slice A m cA) ∧ W'.cell? ⟨gb, 2, none⟩ = some (.slice Ap np cp)) (J := [4, 5]) (by kernel_rfl) ?_ (fun AA => ?_)
  ·exact ⟨HG2.out.cell 0, HG2.out.cell 1, HG2.out.cell 2⟩
  try dsimp only at AA
  refine tk 0 103 (mf 6 1) AA ?_
  refine tk 1 104 (mf 6 2) AA ?_
  refine tk 2 8 (mf 6 3) AA ?_
  refine tk 3 9 (mf 6 4) AA ?_
  refine tb 4 (mf 6 5) fun K hK => ?_
  go_simp
  refine hK.out _ _ (fun h => by cases h) (fun _ => ?_)
  try clear AA
  clear hK K
  refine tb 5 (mf 6 6) fun K hK => ?_
  go_simp
  refine hK.out _ _ (fun h => by cases h) (fun _ => ?_)
  try clear AA
  clear hK K
  refine zA (by kernel_rfl) ?_ _
  have HE0 := iD (HBV.out.fin (x := .int .i64 co) (y := .slice A m cA) (z := .slice Ap np cp))
  have HE : Hid (Blk (((V.setCell ⟨w.heap.size + 3, 0, none⟩ (.int .i64 co)).setCell ⟨w.heap.size + 3, 1, none⟩ (.slice A m cA)).setCell ⟨w.heap.size + 3, 2, none⟩ (.slice Ap np cp)).drew (w.heap.size + 3) 37 #[.int .i64 co, .slice A m cA, .slice Ap np cp] ∧ Below w.heap.size w (((V.setCell ⟨w.heap.size + 3, 0, none⟩ (.int .i64 co)).setCell ⟨w.heap.size + 3, 1, none⟩ (.slice A m cA)).setCell ⟨w.heap.size + 3, 2, none⟩ (.slice Ap np cp)).drew) := ⟨HE0.out.1, HE0.out.2.drew⟩
  have HSO : Hid (yZ (((V.setCell ⟨w.heap.size + 3, 0, none⟩ (.int .i64 co)).setCell ⟨w.heap.size + 3, 1, none⟩ (.slice A m cA)).setCell ⟨w.heap.size + 3, 2, none⟩ (.slice Ap np cp)).drew none As A Ap 0 0 n c m cA np cp ⟨[], ⟨s, L, pr⟩, true⟩) := ⟨Sl.nil _ _ _, (HH.out.below HE.out.2).hs, iM HS2.out HW2.out HBL2.out HE0.out.2, (HH.out.below HE.out.2).hp⟩
  clear d0 d1 d2 y0 y1 y2 HE0
  go_wp2_with fail
  generalize World.drew (World.setCell (World.setCell (World.setCell V _ _) _ _) _ _) = z at *
  have q0 := HE.out.1.c0
  have q1 := HE.out.1.c1
  have q2 := HE.out.1.c2
  exact bodyPost_ret (v := .tuple #[.slice none 0 0, .slice As n c, .agg #[.int .i64 co, .slice A m cA, .slice Ap np cp], .bool true]) (by simp [results, Tryz.results71, go_sem, q0, q1, q2]) rfl ⟨_, _, _, _, _, _, _, _, _, _, _, _, by rw [HT.out], by rw [HT.out]; exact HSO, ⟨.inl ⟨rfl, rfl⟩, .inl ⟨rfl, rfl⟩, HWF.out, .inl ⟨rfl, rfl⟩⟩, HE.out.2⟩
theorem rD (An Ad As Al Ap : Option Addr) (nn cn nd cd n c nl cl np cp : Nat) (ns : List Nd) (ds : List Dv) (s : List Int) (ls : List Lk) (pr : List Int) (co k d no p q : Int) (w : World) (h : yX w An Ad As Al Ap nn cn nd cd n c nl cl np cp ns ds s ls pr) (hok : tJ ns ds ⟨s, ls, pr⟩) (_hco : 0 ≤ co ∧ co ≤ 7) (hx : zT ns.length ds.length ⟨k, d, no, p, q⟩ = 0) (hk : k = 6) :
 Calls Tryz.prog 71 #[.agg #[.slice An nn cn, .slice Ad nd cd], .slice As n c, .agg #[.int .i64 co, .slice Al nl cl, .slice Ap np cp], .agg #[.int .i64 k, .int .i64 d, .int .i64 no, .int .i64 p, .int .i64 q]] w (uO w As Al Ap n nl np co (zd ns ds co ⟨s, ls, pr⟩ ⟨k, d, no, p, q⟩)) := by
 have HK := iD hk
 clear hk
 obtain ⟨hln, hld, hls⟩ := h.ln
 have hlp : pr.length = np := h.hp.len (fun _ => rfl) (by decide)
 have HH := iD h
 have HB := iD (Bst.new w #[.slice An nn cn, .slice Ad nd cd] #[.int .i64 co, .slice Al nl cl, .slice Ap np cp] #[.int .i64 k, .int .i64 d, .int .i64 no, .int .i64 p, .int .i64 q])
 obtain ⟨hx1, hx2, hx3, hx4, hx5⟩ := yE hx
 dsimp only at hx1 hx2 hx3 hx4 hx5
 obtain ⟨hcn, hsl⟩ := zp hok.s
 have HNK := iD (yt.of hcn)
 have HOK := iD hok
 have hnn : nn ≤ 32 := by have := HNK.out.nl; omega
 have hnd : nd ≤ 64 := by have := HNK.out.dl; omega
 dsimp only at hsl
 clear h hok hx hcn
 go_enter Tryz.func71, Tryz.ntmps71
 go_upto_region 1 with (fail)
 generalize World.alloc (World.alloc (World.alloc (World.alloc w _) _) _) _ = W at *
 rw [show w.heap.size + 1 + 1 = w.heap.size + 2 from rfl, show w.heap.size + 2 + 1 = w.heap.size + 3 from rfl]
 have HM := iD (HH.out.below HB.out.bl)
 obtain ⟨⟨k0, k1⟩, ⟨g0, g1, g2⟩, s0, s1, s2, s3, s4⟩ := HB.out.cells
 have hk := HK.out
 clear HK
 subst hk
 have hd2 := hx2 (by decide)
 obtain ⟨i, rfl⟩ := Int.eq_ofNat_of_zero_le hd2.1
 obtain ⟨bs, os, sv, hAs, hbs, hsv, hcs⟩ := HM.out.hs.at1 (show i < n by omega)
 subst hAs
 have HSV : Hid (s.getD (i : Int).toNat 0 = sv) := by unfold Hid; rw [Int.toNat_natCast, List.getD_eq_getElem?_getD, hsv]; rfl
 clear hsv hbs
 have hin : i < n := by omega
 go_upto_region 16 with (fail)
 refine zC (S := fun W' => (W'.cell? ⟨w.heap.size + 2, 1, none⟩ = some (.int .i64 i) ∧ W'.cell? ⟨w.heap.size + 2, 3, none⟩ = some (.int .i64 p)) ∧ W'.cell? ⟨bs, os + i, none⟩ = some (.int .i64 sv)) (J := []) (by kernel_rfl) ?_ (fun AA => ?_)
 ·exact ⟨⟨s1, s3⟩, hcs⟩
 try dsimp only at AA
 refine tk 0 75 (mf 8 1) AA ?_
 refine tk 1 76 (mf 8 2) AA ?_
 refine tx 2 77 ?_ (mf 8 3) ?_ AA ?_
 rotate_left
 ·(intro w hSw; (try dsimp only at hSw); have u1 := hSw.1.1; go_simp; try with_reducible rfl)
 try simp only [Act.put, sA, sB, sC]
 refine tk 3 78 (mf 8 4) AA ?_
 refine tx 4 79 ?_ (mf 8 5) ?_ AA ?_
 rotate_left
 ·(intro w hSw; (try dsimp only at hSw); have u2 := hSw.2; go_simp; try with_reducible rfl)
 try simp only [Act.put, sA, sB, sC]
 refine tk 5 80 (mf 8 6) AA ?_
 refine tx 6 81 ?_ (mf 8 7) ?_ AA ?_
 rotate_left
 ·(intro w hSw; (try dsimp only at hSw); have u3 := hSw.1.2; go_simp; try with_reducible rfl)
 try simp only [Act.put, sA, sB, sC]
 refine tk 7 82 (mf 8 8) AA ?_
 refine zA (by kernel_rfl) ?_ _
 have HBD := iD (HB.out.later (Below.refl _ W).drew)
 clear HM k0 k1 g0 g1 g2 s0 s1 s2 s3 s4 hcs
 generalize World.drew W = WD at *
 obtain ⟨⟨k0, k1⟩, ⟨g0, g1, g2⟩, s0, s1, s2, s3, s4⟩ := HBD.out.cells
 by_cases hpq : sv = p; rotate_left
 ·have q1 : (sv != p) = true := by simpa using hpq
  have HT : Hid (zd ns ds co ⟨s, ls, pr⟩ ⟨6, i, no, p, q⟩ = ⟨[8], ⟨s, ls, pr⟩, false⟩) := by unfold Hid; rw [gE]; dsimp only; rw [HSV.out, if_pos hpq]
  clear hpq
  go_upto_region 17 with (fail)
  clear q1 k0 k1 g0 g1 g2 s0 s1 s2 s3 s4
  have HG1 := iD HBD.out.b1
  have HBLA : Hid (Below WD.heap.size WD (WD.alloc (.cells #[.int .i64 8] 3)).drew) := ((Below.refl WD.heap.size WD).alloc lR (.cells #[.int .i64 8] 3)).drew
  have HBA := iD (HBD.out.later HBLA.out)
  have HVA : Hid (Blk (WD.alloc (.cells #[.int .i64 8] 3)).drew WD.heap.size 3 #[.int .i64 8]) := Blk.new WD 3 #[.int .i64 8]
  have HGA := iD (HG1.out.below HBLA.out HG1.out.lt)
  have hqq : WD.heap.size ≠ w.heap.size + 3 := by have := HBD.out.b3.lt; omega
  refine zC (S := fun W' => W'.cell? ⟨w.heap.size + 1, 0, none⟩ = some (.int .i64 co) ∧ W'.cell? ⟨w.heap.size + 1, 1, none⟩ = some (.slice Al nl cl) ∧ W'.cell? ⟨w.heap.size + 1, 2, none⟩ = some (.slice Ap np cp)) (J := [5, 6]) (by kernel_rfl) ?_ (fun AA => ?_)
  ·exact ⟨HG1.out.cell 0, HG1.out.cell 1, HG1.out.cell 2⟩
  try dsimp only at AA
  refine tk 1 84 (ma 7 2) AA ?_
  refine tk 2 85 (ma 7 6) AA ?_
  refine tb 0 (mf 7 3) fun K hK => ?_
  go_simp
  refine hK.out _ _ (fun _ => ?_) (fun AA' => ?_)
  ·exact ⟨HGA.out.cell 0, HGA.out.cell 1, HGA.out.cell 2⟩
  replace AA := AA' rfl
  clear AA' hK K
  try dsimp only at AA
  generalize World.drew (World.alloc WD _) = wa at *
  have d0 := HBA.out.b3.cell 0; have d1 := HBA.out.b3.cell 1; have d2 := HBA.out.b3.cell 2; have y0 := HBA.out.b3.frozen 0; have y1 := HBA.out.b3.frozen 1; have y2 := HBA.out.b3.frozen 2
  refine tk 3 8 (mf 7 4) AA ?_
  refine tk 4 9 (mf 7 5) AA ?_
  refine tb 5 (mf 7 6) fun K hK => ?_
  go_simp
  refine hK.out _ _ (fun h => by cases h) (fun _ => ?_)
  try clear AA
  clear hK K
  refine tb 6 (mf 7 7) fun K hK => ?_
  go_simp
  refine hK.out _ _ (fun h => by cases h) (fun _ => ?_)
  try clear AA
  clear hK K
  refine zA (by kernel_rfl) ?_ _
  have HE := iD (HBA.out.fin (x := .int .i64 co) (y := .slice Al nl cl) (z := .slice Ap np cp))
  have HSO : Hid (yZ (((wa.setCell ⟨w.heap.size + 3, 0, none⟩ (.int .i64 co)).setCell ⟨w.heap.size + 3, 1, none⟩ (.slice Al nl cl)).setCell ⟨w.heap.size + 3, 2, none⟩ (.slice Ap np cp)) (some ⟨WD.heap.size, 0, none⟩) (some ⟨bs, os, none⟩) Al Ap 1 1 n c nl cl np cp ⟨[8], ⟨s, ls, pr⟩, false⟩) := ⟨xj (yG HVA.out hqq), (HH.out.below HE.out.2).hs, (HH.out.below HE.out.2).hl, (HH.out.below HE.out.2).hp⟩
  clear d0 d1 d2 y0 y1 y2
  go_wp2_with fail
  generalize World.setCell (World.setCell (World.setCell wa _ _) _ _) _ _ = z at *
  have q0 := HE.out.1.c0
  have q1 := HE.out.1.c1
  have q2 := HE.out.1.c2
  exact bodyPost_ret (v := .tuple #[.slice (some ⟨WD.heap.size, 0, none⟩) 1 1, .slice (some ⟨bs, os, none⟩) n c, .agg #[.int .i64 co, .slice Al nl cl, .slice Ap np cp], .bool false]) (by simp [results, Tryz.results71, go_sem, q0, q1, q2]) rfl ⟨_, _, _, _, _, _, _, _, _, _, _, _, by rw [HT.out], by rw [HT.out]; exact HSO, ⟨.inr (fun b off e => by injection e with e; injection e with e1 e2; rw [← e1]; exact HBD.out.bl.size), .inl ⟨rfl, rfl⟩, .inl ⟨rfl, rfl⟩, .inl ⟨rfl, rfl⟩⟩, HE.out.2⟩
 have q1 : (sv != p) = false := by simpa using hpq
 have HPQ : Hid (¬ s.getD (i : Int).toNat 0 ≠ p) := by unfold Hid; rw [HSV.out]; simp [hpq]
 clear hpq
 have HT : Hid (zd ns ds co ⟨s, ls, pr⟩ ⟨6, i, no, p, q⟩ = ⟨[], ⟨s, ls, pr⟩, true⟩) := by unfold Hid; rw [gE, if_neg HPQ.out]
 go_upto_region 19 with (fail)
 clear q1 k0 k1 g0 g1 g2 s0 s1 s2 s3 s4
 have HG1 := iD HBD.out.b1
 have d0 := HBD.out.b3.cell 0; have d1 := HBD.out.b3.cell 1; have d2 := HBD.out.b3.cell 2; have y0 := HBD.out.b3.frozen 0; have y1 := HBD.out.b3.frozen 1; have y2 := HBD.out.b3.frozen 2
 refine zC (S := fun W' => W'.cell? ⟨w.heap.size + 1, 0, none⟩ = some (.int .i64 co) ∧ W'.cell? ⟨w.heap.size + 1, 1, none⟩ = some (.slice Al nl cl) ∧ W'.cell? ⟨w.heap.size + 1, 2, none⟩ = some (.slice Ap np cp)) (J := [4, 5]) (by kernel_rfl) ?_ (fun AA => ?_)
 ·exact ⟨HG1.out.cell 0, HG1.out.cell 1, HG1.out.cell 2⟩
 try dsimp only at AA
 refine tk 0 89 (mf 6 1) AA ?_
 refine tk 1 90 (mf 6 2) AA ?_
 refine tk 2 8 (mf 6 3) AA ?_
 refine tk 3 9 (mf 6 4) AA ?_
 refine tb 4 (mf 6 5) fun K hK => ?_
 go_simp
 refine hK.out _ _ (fun h => by cases h) (fun _ => ?_)
 try clear AA
 clear hK K
 refine tb 5 (mf 6 6) fun K hK => ?_
 go_simp
 refine hK.out _ _ (fun h => by cases h) (fun _ => ?_)
 try clear AA
 clear hK K
 refine zA (by kernel_rfl) ?_ _
 have HE0 := iD (HBD.out.fin (x := .int .i64 co) (y := .slice Al nl cl) (z := .slice Ap np cp))
 have HE : Hid (Blk (((WD.setCell ⟨w.heap.size + 3, 0, none⟩ (.int .i64 co)).setCell ⟨w.heap.size + 3, 1, none⟩ (.slice Al nl cl)).setCell ⟨w.heap.size + 3, 2, none⟩ (.slice Ap np cp)).drew (w.heap.size + 3) 37 #[.int .i64 co, .slice Al nl cl, .slice Ap np cp] ∧ Below w.heap.size w (((WD.setCell ⟨w.heap.size + 3, 0, none⟩ (.int .i64 co)).setCell ⟨w.heap.size + 3, 1, none⟩ (.slice Al nl cl)).setCell ⟨w.heap.size + 3, 2, none⟩ (.slice Ap np cp)).drew) := ⟨HE0.out.1, HE0.out.2.drew⟩
 have HSO : Hid (yZ (((WD.setCell ⟨w.heap.size + 3, 0, none⟩ (.int .i64 co)).setCell ⟨w.heap.size + 3, 1, none⟩ (.slice Al nl cl)).setCell ⟨w.heap.size + 3, 2, none⟩ (.slice Ap np cp)).drew none (some ⟨bs, os, none⟩) Al Ap 0 0 n c nl cl np cp ⟨[], ⟨s, ls, pr⟩, true⟩) := ⟨Sl.nil _ _ _, (HH.out.below HE.out.2).hs, (HH.out.below HE.out.2).hl, (HH.out.below HE.out.2).hp⟩
 clear d0 d1 d2 y0 y1 y2 HE0
 go_wp2_with fail
 generalize World.drew (World.setCell (World.setCell (World.setCell WD _ _) _ _) _ _) = z at *
 have q0 := HE.out.1.c0
 have q1 := HE.out.1.c1
 have q2 := HE.out.1.c2
 exact bodyPost_ret (v := .tuple #[.slice none 0 0, .slice (some ⟨bs, os, none⟩) n c, .agg #[.int .i64 co, .slice Al nl cl, .slice Ap np cp], .bool true]) (by simp [results, Tryz.results71, go_sem, q0, q1, q2]) rfl ⟨_, _, _, _, _, _, _, _, _, _, _, _, by rw [HT.out], by rw [HT.out]; exact HSO, ⟨.inl ⟨rfl, rfl⟩, .inl ⟨rfl, rfl⟩, .inl ⟨rfl, rfl⟩, .inl ⟨rfl, rfl⟩⟩, HE.out.2⟩
theorem qB (An Ad As Al Ap : Option Addr) (nn cn nd cd n c nl cl np cp : Nat) (ns : List Nd) (ds : List Dv) (s : List Int) (ls : List Lk) (pr : List Int) (co k d no p q : Int) (w : World) (h : yX w An Ad As Al Ap nn cn nd cd n c nl cl np cp ns ds s ls pr) (hok : tJ ns ds ⟨s, ls, pr⟩) (_hco : 0 ≤ co ∧ co ≤ 7) (hx : zT ns.length ds.length ⟨k, d, no, p, q⟩ = 0) (hk : k = 3) :
 Calls Tryz.prog 71 #[.agg #[.slice An nn cn, .slice Ad nd cd], .slice As n c, .agg #[.int .i64 co, .slice Al nl cl, .slice Ap np cp], .agg #[.int .i64 k, .int .i64 d, .int .i64 no, .int .i64 p, .int .i64 q]] w (uO w As Al Ap n nl np co (zd ns ds co ⟨s, ls, pr⟩ ⟨k, d, no, p, q⟩)) := by
 have HK := iD hk
 clear hk
 obtain ⟨hln, hld, hls⟩ := h.ln
 have hlp : pr.length = np := h.hp.len (fun _ => rfl) (by decide)
 have HH := iD h
 have HB := iD (Bst.new w #[.slice An nn cn, .slice Ad nd cd] #[.int .i64 co, .slice Al nl cl, .slice Ap np cp] #[.int .i64 k, .int .i64 d, .int .i64 no, .int .i64 p, .int .i64 q])
 obtain ⟨hx1, hx2, hx3, hx4, hx5⟩ := yE hx
 dsimp only at hx1 hx2 hx3 hx4 hx5
 obtain ⟨hcn, hsl⟩ := zp hok.s
 have HNK := iD (yt.of hcn)
 have HOK := iD hok
 have hnn : nn ≤ 32 := by have := HNK.out.nl; omega
 have hnd : nd ≤ 64 := by have := HNK.out.dl; omega
 dsimp only at hsl
 clear h hok hx hcn
 go_enter Tryz.func71, Tryz.ntmps71
 go_upto_region 1 with (fail)
 generalize World.alloc (World.alloc (World.alloc (World.alloc w _) _) _) _ = W at *
 rw [show w.heap.size + 1 + 1 = w.heap.size + 2 from rfl, show w.heap.size + 2 + 1 = w.heap.size + 3 from rfl]
 have HM := iD (HH.out.below HB.out.bl)
 obtain ⟨⟨k0, k1⟩, ⟨g0, g1, g2⟩, s0, s1, s2, s3, s4⟩ := HB.out.cells
 have hk := HK.out
 clear HK
 subst hk
 have hd2 := hx2 (by decide)
 obtain ⟨i, rfl⟩ := Int.eq_ofNat_of_zero_le hd2.1
 obtain ⟨bs, os, sv, hAs, hbs, hsv, hcs⟩ := HM.out.hs.at1 (show i < n by omega)
 subst hAs
 have HSV : Hid (s.getD (i : Int).toNat 0 = sv) := by unfold Hid; rw [Int.toNat_natCast, List.getD_eq_getElem?_getD, hsv]; rfl
 clear hsv hbs
 have hin : i < n := by omega
 go_upto_region 16 with (fail)
 refine zC (S := fun W' => (W'.cell? ⟨w.heap.size + 2, 1, none⟩ = some (.int .i64 i) ∧ W'.cell? ⟨w.heap.size + 2, 3, none⟩ = some (.int .i64 p)) ∧ W'.cell? ⟨bs, os + i, none⟩ = some (.int .i64 sv)) (J := []) (by kernel_rfl) ?_ (fun AA => ?_)
 ·exact ⟨⟨s1, s3⟩, hcs⟩
 try dsimp only at AA
 refine tk 0 75 (mf 8 1) AA ?_
 refine tk 1 76 (mf 8 2) AA ?_
 refine tx 2 77 ?_ (mf 8 3) ?_ AA ?_
 rotate_left
 ·(intro w hSw; (try dsimp only at hSw); have u1 := hSw.1.1; go_simp; try with_reducible rfl)
 try simp only [Act.put, sA, sB, sC]
 refine tk 3 78 (mf 8 4) AA ?_
 refine tx 4 79 ?_ (mf 8 5) ?_ AA ?_
 rotate_left
 ·(intro w hSw; (try dsimp only at hSw); have u2 := hSw.2; go_simp; try with_reducible rfl)
 try simp only [Act.put, sA, sB, sC]
 refine tk 5 80 (mf 8 6) AA ?_
 refine tx 6 81 ?_ (mf 8 7) ?_ AA ?_
 rotate_left
 ·(intro w hSw; (try dsimp only at hSw); have u3 := hSw.1.2; go_simp; try with_reducible rfl)
 try simp only [Act.put, sA, sB, sC]
 refine tk 7 82 (mf 8 8) AA ?_
 refine zA (by kernel_rfl) ?_ _
 have HBD := iD (HB.out.later (Below.refl _ W).drew)
 clear HM k0 k1 g0 g1 g2 s0 s1 s2 s3 s4 hcs
 generalize World.drew W = WD at *
 obtain ⟨⟨k0, k1⟩, ⟨g0, g1, g2⟩, s0, s1, s2, s3, s4⟩ := HBD.out.cells
 by_cases hpq : sv = p; rotate_left
 ·have q1 : (sv != p) = true := by simpa using hpq
  have HT : Hid (zd ns ds co ⟨s, ls, pr⟩ ⟨3, i, no, p, q⟩ = ⟨[8], ⟨s, ls, pr⟩, false⟩) := by unfold Hid; rw [kN]; dsimp only; rw [HSV.out, if_pos hpq]
  clear hpq
  go_upto_region 17 with (fail)
  clear q1 k0 k1 g0 g1 g2 s0 s1 s2 s3 s4
  have HG1 := iD HBD.out.b1
  have HBLA : Hid (Below WD.heap.size WD (WD.alloc (.cells #[.int .i64 8] 3)).drew) := ((Below.refl WD.heap.size WD).alloc lR (.cells #[.int .i64 8] 3)).drew
  have HBA := iD (HBD.out.later HBLA.out)
  have HVA : Hid (Blk (WD.alloc (.cells #[.int .i64 8] 3)).drew WD.heap.size 3 #[.int .i64 8]) := Blk.new WD 3 #[.int .i64 8]
  have HGA := iD (HG1.out.below HBLA.out HG1.out.lt)
  have hqq : WD.heap.size ≠ w.heap.size + 3 := by have := HBD.out.b3.lt; omega
  refine zC (S := fun W' => W'.cell? ⟨w.heap.size + 1, 0, none⟩ = some (.int .i64 co) ∧ W'.cell? ⟨w.heap.size + 1, 1, none⟩ = some (.slice Al nl cl) ∧ W'.cell? ⟨w.heap.size + 1, 2, none⟩ = some (.slice Ap np cp)) (J := [5, 6]) (by kernel_rfl) ?_ (fun AA => ?_)
  ·exact ⟨HG1.out.cell 0, HG1.out.cell 1, HG1.out.cell 2⟩
  try dsimp only at AA
  refine tk 1 84 (ma 7 2) AA ?_
  refine tk 2 85 (ma 7 6) AA ?_
  refine tb 0 (mf 7 3) fun K hK => ?_
  go_simp
  refine hK.out _ _ (fun _ => ?_) (fun AA' => ?_)
  ·exact ⟨HGA.out.cell 0, HGA.out.cell 1, HGA.out.cell 2⟩
  replace AA := AA' rfl
  clear AA' hK K
  try dsimp only at AA
  generalize World.drew (World.alloc WD _) = wa at *
  have d0 := HBA.out.b3.cell 0; have d1 := HBA.out.b3.cell 1; have d2 := HBA.out.b3.cell 2; have y0 := HBA.out.b3.frozen 0; have y1 := HBA.out.b3.frozen 1; have y2 := HBA.out.b3.frozen 2
  refine tk 3 8 (mf 7 4) AA ?_
  refine tk 4 9 (mf 7 5) AA ?_
  refine tb 5 (mf 7 6) fun K hK => ?_
  go_simp
  refine hK.out _ _ (fun h => by cases h) (fun _ => ?_)
  try clear AA
  clear hK K
  refine tb 6 (mf 7 7) fun K hK => ?_
  go_simp
  refine hK.out _ _ (fun h => by cases h) (fun _ => ?_)
  try clear AA
  clear hK K
  refine zA (by kernel_rfl) ?_ _
  have HE := iD (HBA.out.fin (x := .int .i64 co) (y := .slice Al nl cl) (z := .slice Ap np cp))
  have HSO : Hid (yZ (((wa.setCell ⟨w.heap.size + 3, 0, none⟩ (.int .i64 co)).setCell ⟨w.heap.size + 3, 1, none⟩ (.slice Al nl cl)).setCell ⟨w.heap.size + 3, 2, none⟩ (.slice Ap np cp)) (some ⟨WD.heap.size, 0, none⟩) (some ⟨bs, os, none⟩) Al Ap 1 1 n c nl cl np cp ⟨[8], ⟨s, ls, pr⟩, false⟩) := ⟨xj (yG HVA.out hqq), (HH.out.below HE.out.2).hs, (HH.out.below HE.out.2).hl, (HH.out.below HE.out.2).hp⟩
  clear d0 d1 d2 y0 y1 y2
  go_wp2_with fail
  generalize World.setCell (World.setCell (World.setCell wa _ _) _ _) _ _ = z at *
  have q0 := HE.out.1.c0
  have q1 := HE.out.1.c1
  have q2 := HE.out.1.c2
  exact bodyPost_ret (v := .tuple #[.slice (some ⟨WD.heap.size, 0, none⟩) 1 1, .slice (some ⟨bs, os, none⟩) n c, .agg #[.int .i64 co, .slice Al nl cl, .slice Ap np cp], .bool false]) (by simp [results, Tryz.results71, go_sem, q0, q1, q2]) rfl ⟨_, _, _, _, _, _, _, _, _, _, _, _, by rw [HT.out], by rw [HT.out]; exact HSO, ⟨.inr (fun b off e => by injection e with e; injection e with e1 e2; rw [← e1]; exact HBD.out.bl.size), .inl ⟨rfl, rfl⟩, .inl ⟨rfl, rfl⟩, .inl ⟨rfl, rfl⟩⟩, HE.out.2⟩
 have q1 : (sv != p) = false := by simpa using hpq
 have HPQ : Hid (¬ s.getD (i : Int).toNat 0 ≠ p) := by unfold Hid; rw [HSV.out]; simp [hpq]
 clear hpq
 go_upto_region 20 with (fail)
 clear q1
 have HLK := iD (wG An Ad Al Ap nn cn nd cd nl cl np cp ns ds ls co 3 i no p q WD (HH.out.below HBD.out.bl).la (HH.out.below HBD.out.bl).hn (HH.out.below HBD.out.bl).hd (HH.out.below HBD.out.bl).hl (HH.out.below HBD.out.bl).sn (HH.out.below HBD.out.bl).sd (by decide) HOK.out.l)
 go_wp2_with fail
 clear k0 k1 g0 g1 g2 s0 s1 s2 s3 s4
 refine HLK.out.mono ?_
 rintro e w2 ⟨A, m, cA, rfl, hS, hW, hb⟩
 have HB2 := iD (HBD.out.later hb.out)
 have HS2 := iD hS.out
 have HW2 : Hid (Sl w w.heap.size 3 A m cA ((zX ns ds ls ⟨3, i, no, p, q⟩).1.flatMap Lk.cells) ∨ ∀ b off, A = some ⟨b, off, none⟩ → b ≠ w.heap.size + 3) := by
  rcases hW.out with ⟨rfl, rfl, rfl, e⟩ | h
  ·left; rw [e]; exact HH.out.hl
  ·right; intro b off e; have := h b off e; have := HBD.out.b3.lt; omega
 have HWF : Hid (Fre w.heap.size Al A nl m) := by
  rcases hW.out with ⟨h, h2, -⟩ | h
  ·exact .inl ⟨h, h2⟩
  ·exact .inr fun b off e => by have := h b off e; have := HBD.out.bl.size; omega
 clear hS hW hb HLK HBD
 obtain ⟨L, hL⟩ : ∃ L, L = (zX ns ds ls ⟨3, i, no, p, q⟩).1 := ⟨_, rfl⟩
 rw [← hL] at HS2 HW2
 have HLL := iD hL
 clear hL
 rcases hb2 : (zX ns ds ls ⟨3, i, no, p, q⟩).2 with _ | _
 ·have HLS : Hid (L = ls) := HLL.out.trans (qM ns ds hb2)
  have HT : Hid (zd ns ds co ⟨s, ls, pr⟩ ⟨3, i, no, p, q⟩ = ⟨[4], ⟨s, ls, pr⟩, true⟩) := by unfold Hid; rw [kN, if_neg HPQ.out, hb2]; rfl
  clear hb2
  go_upto_region 21 with (fail)
  have HBV := iD (HB2.out.later ((Below.refl _ w2).alloc lR (.cells #[.int .i64 co, .slice A m cA, .slice Ap np cp] 37)))
  have HG2 := iD (Blk.new w2 37 #[.int .i64 co, .slice A m cA, .slice Ap np cp])
  have HBL2 : Hid (Below w2.heap.size w2 (w2.alloc (.cells #[.int .i64 co, .slice A m cA, .slice Ap np cp] 37))) := (Below.refl _ w2).alloc lR _
  generalize World.alloc w2 _ = V at *
  obtain ⟨gb, hgb⟩ : ∃ x, x = w2.heap.size := ⟨_, rfl⟩
  rw [← hgb] at HG2 ⊢
  clear hgb
  go_upto_region 22 with (fail)
  rw [HLS.out] at HS2 HW2
  have HBLA : Hid (Below V.heap.size V (V.alloc (.cells #[.int .i64 4] 3)).drew) := ((Below.refl V.heap.size V).alloc lR (.cells #[.int .i64 4] 3)).drew
  have HBA := iD (HBV.out.later HBLA.out)
  have HVA : Hid (Blk (V.alloc (.cells #[.int .i64 4] 3)).drew V.heap.size 3 #[.int .i64 4]) := Blk.new V 3 #[.int .i64 4]
  have HGA := iD (HG2.out.below HBLA.out HG2.out.lt)
  have hqq : V.heap.size ≠ w.heap.size + 3 := by have := HBV.out.b3.lt; omega
  refine zC (S := fun W' => W'.cell? ⟨gb, 0, none⟩ = some (.int .i64 co) ∧ W'.cell? ⟨gb, 1, none⟩ = some (.slice A m cA) ∧ W'.cell? ⟨gb, 2, none⟩ = some (.slice Ap np cp)) (J := [5, 6]) (by kernel_rfl) ?_ (fun AA => ?_)
  ·exact ⟨HG2.out.cell 0, HG2.out.cell 1, HG2.out.cell 2⟩
  try dsimp only at AA
  refine tk 1 101 (ma 7 2) AA ?_
  refine tk 2 102 (ma 7 6) AA ?_
  refine tb 0 (mf 7 3) fun K hK => ?_
  go_simp
  refine hK.out _ _ (fun _ => ?_) (fun AA' => ?_)
  ·exact ⟨HGA.out.cell 0, HGA.out.cell 1, HGA.out.cell 2⟩
  replace AA := AA' rfl
  clear AA' hK K
  try dsimp only at AA
  generalize World.drew (World.alloc V _) = wa at *
  have d0 := HBA.out.b3.cell 0; have d1 := HBA.out.b3.cell 1; have d2 := HBA.out.b3.cell 2; have y0 := HBA.out.b3.frozen 0; have y1 := HBA.out.b3.frozen 1; have y2 := HBA.out.b3.frozen 2
  refine tk 3 8 (mf 7 4) AA ?_
  refine tk 4 9 (mf 7 5) AA ?_
  refine tb 5 (mf 7 6) fun K hK => ?_
  go_simp
  refine hK.out _ _ (fun h => by cases h) (fun _ => ?_)
  try clear AA
  clear hK K
  refine tb 6 (mf 7 7) fun K hK => ?_
  go_simp
  refine hK.out _ _ (fun h => by cases h) (fun _ => ?_)
  try clear AA
  clear hK K
  refine zA (by kernel_rfl) ?_ _
  have HE := iD (HBA.out.fin (x := .int .i64 co) (y := .slice A m cA) (z := .slice Ap np cp))
  have HSO : Hid (yZ (((wa.setCell ⟨w.heap.size + 3, 0, none⟩ (.int .i64 co)).setCell ⟨w.heap.size + 3, 1, none⟩ (.slice A m cA)).setCell ⟨w.heap.size + 3, 2, none⟩ (.slice Ap np cp)) (some ⟨V.heap.size, 0, none⟩) (some ⟨bs, os, none⟩) A Ap 1 1 n c m cA np cp ⟨[4], ⟨s, ls, pr⟩, true⟩) := ⟨xj (yG HVA.out hqq), (HH.out.below HE.out.2).hs, iM HS2.out HW2.out (HBL2.out.trans (HBLA.out.mono HBL2.out.size)) HE.out.2, (HH.out.below HE.out.2).hp⟩
  clear d0 d1 d2 y0 y1 y2
  go_wp2_with fail
  generalize World.setCell (World.setCell (World.setCell wa _ _) _ _) _ _ = z at *
  have q0 := HE.out.1.c0
  have q1 := HE.out.1.c1
  have q2 := HE.out.1.c2
  exact bodyPost_ret (v := .tuple #[.slice (some ⟨V.heap.size, 0, none⟩) 1 1, .slice (some ⟨bs, os, none⟩) n c, .agg #[.int .i64 co, .slice A m cA, .slice Ap np cp], .bool true]) (by simp [results, Tryz.results71, go_sem, q0, q1, q2]) rfl ⟨_, _, _, _, _, _, _, _, _, _, _, _, by rw [HT.out], by rw [HT.out]; exact HSO, ⟨.inr (fun b off e => by injection e with e; injection e with e1 e2; rw [← e1]; exact HBV.out.bl.size), .inl ⟨rfl, rfl⟩, HWF.out, .inl ⟨rfl, rfl⟩⟩, HE.out.2⟩
 ·have HT : Hid (zd ns ds co ⟨s, ls, pr⟩ ⟨3, i, no, p, q⟩ = ⟨[], ⟨s, L, pr⟩, true⟩) := by unfold Hid; rw [kN, if_neg HPQ.out, hb2, HLL.out]; rfl
  clear hb2
  go_upto_region 21 with (fail)
  have HBV := iD (HB2.out.later ((Below.refl _ w2).alloc lR (.cells #[.int .i64 co, .slice A m cA, .slice Ap np cp] 37)))
  have HG2 := iD (Blk.new w2 37 #[.int .i64 co, .slice A m cA, .slice Ap np cp])
  have HBL2 : Hid (Below w2.heap.size w2 (w2.alloc (.cells #[.int .i64 co, .slice A m cA, .slice Ap np cp] 37))) := (Below.refl _ w2).alloc lR _
  generalize World.alloc w2 _ = V at *
  obtain ⟨gb, hgb⟩ : ∃ x, x = w2.heap.size := ⟨_, rfl⟩
  rw [← hgb] at HG2 ⊢
  clear hgb
  go_upto_region 23 with (fail)
  have d0 := HBV.out.b3.cell 0; have d1 := HBV.out.b3.cell 1; have d2 := HBV.out.b3.cell 2; have y0 := HBV.out.b3.frozen 0; have y1 := HBV.out.b3.frozen 1; have y2 := HBV.out.b3.frozen 2
  refine zC (S := fun W' => W'.cell? ⟨gb, 0, none⟩ = some (.int .i64 co) ∧ W'.cell? ⟨gb, 1, none⟩ = some (.slice A m cA) ∧ W'.cell? ⟨gb, 2, none⟩ = some (.slice Ap np cp)) (J := [4, 5]) (by kernel_rfl) ?_ (fun AA => ?_)
  ·exact ⟨HG2.out.cell 0, HG2.out.cell 1, HG2.out.cell 2⟩
  try dsimp only at AA
  refine tk 0 103 (mf 6 1) AA ?_
  refine tk 1 104 (mf 6 2) AA ?_
  refine tk 2 8 (mf 6 3) AA ?_
  refine tk 3 9 (mf 6 4) AA ?_
  refine tb 4 (mf 6 5) fun K hK => ?_
  go_simp
  refine hK.out _ _ (fun h => by cases h) (fun _ => ?_)
  try clear AA
  clear hK K
  refine tb 5 (mf 6 6) fun K hK => ?_
  go_simp
  refine hK.out _ _ (fun h => by cases h) (fun _ => ?_)
  try clear AA
  clear hK K
  refine zA (by kernel_rfl) ?_ _
  have HE0 := iD (HBV.out.fin (x := .int .i64 co) (y := .slice A m cA) (z := .slice Ap np cp))
  have HE : Hid (Blk (((V.setCell ⟨w.heap.size + 3, 0, none⟩ (.int .i64 co)).setCell ⟨w.heap.size + 3, 1, none⟩ (.slice A m cA)).setCell ⟨w.heap.size + 3, 2, none⟩ (.slice Ap np cp)).drew (w.heap.size + 3) 37 #[.int .i64 co, .slice A m cA, .slice Ap np cp] ∧ Below w.heap.size w (((V.setCell ⟨w.heap.size + 3, 0, none⟩ (.int .i64 co)).setCell ⟨w.heap.size + 3, 1, none⟩ (.slice A m cA)).setCell ⟨w.heap.size + 3, 2, none⟩ (.slice Ap np cp)).drew) := ⟨HE0.out.1, HE0.out.2.drew⟩
  have HSO : Hid (yZ (((V.setCell ⟨w.heap.size + 3, 0, none⟩ (.int .i64 co)).setCell ⟨w.heap.size + 3, 1, none⟩ (.slice A m cA)).setCell ⟨w.heap.size + 3, 2, none⟩ (.slice Ap np cp)).drew none (some ⟨bs, os, none⟩) A Ap 0 0 n c m cA np cp ⟨[], ⟨s, L, pr⟩, true⟩) := ⟨Sl.nil _ _ _, (HH.out.below HE.out.2).hs, iM HS2.out HW2.out HBL2.out HE0.out.2, (HH.out.below HE.out.2).hp⟩
  clear d0 d1 d2 y0 y1 y2 HE0
  go_wp2_with fail
  generalize World.drew (World.setCell (World.setCell (World.setCell V _ _) _ _) _ _) = z at *
  have q0 := HE.out.1.c0
  have q1 := HE.out.1.c1
  have q2 := HE.out.1.c2
  exact bodyPost_ret (v := .tuple #[.slice none 0 0, .slice (some ⟨bs, os, none⟩) n c, .agg #[.int .i64 co, .slice A m cA, .slice Ap np cp], .bool true]) (by simp [results, Tryz.results71, go_sem, q0, q1, q2]) rfl ⟨_, _, _, _, _, _, _, _, _, _, _, _, by rw [HT.out], by rw [HT.out]; exact HSO, ⟨.inl ⟨rfl, rfl⟩, .inl ⟨rfl, rfl⟩, HWF.out, .inl ⟨rfl, rfl⟩⟩, HE.out.2⟩
end
end Go.Proofs.YtkkobemhbicjgaaGreatDoor
