import Derived.Test.YtkkobemhbicjgaaGreatDoorB29
set_option maxRecDepth 100000
set_option maxHeartbeats 4000000
namespace Go.Proofs.YtkkobemhbicjgaaGreatDoor
open Go.RowKit Tryz
variable {ns : List Nd} {ds : List Dv} {m pr s : List Int} {co d p : Int} {ls : List Lk} {x : Sp} {out : List Fn} {xs : List Sp} {i : Nat} {t : Sm}
def xe (m : List Int) (p : Int) : List Int := m.map fun x => if x = 3 then p else x
def vq (m : List Int) (p : Int) (j : Nat) (l : List Int) : Prop := l.length = m.length ∧ ∀ d, d < m.length → l[d]? = some (if m[d]? = some 3 ∧ zm m d < j then p else m.getD d 0)
section
variable {m l : List Int} {p : Int} {j d : Nat}
theorem vq.start : vq m p 0 m := ⟨rfl, fun d hd => by rw [if_neg (by omega), List.getD_eq_getElem?_getD, List.getElem?_eq_getElem hd]; rfl⟩
theorem vq.step (h : vq m p j l) (hd : (wA m m.length)[j]? = some d) : vq m p (j + 1) (l.set d p) := by
 obtain ⟨h3, hlt, hc⟩ := uM m _ _ _ hd;refine ⟨by simp [h.1], fun e he => ?_⟩;rw [List.getElem?_set];by_cases RZ : d = e
 ·subst RZ;rw [if_pos rfl, if_pos (by rw [h.1]; exact he), if_pos ⟨h3, by omega⟩]
 ·rw [if_neg RZ, h.2 e he]
  congr 1
  by_cases NF : m[e]? = some 3
  ·have : zm m e ≠ j := fun hh => RZ (mE h3 NF (by omega))
   by_cases FZ : zm m e < j
   ·rw [if_pos ⟨NF, FZ⟩, if_pos ⟨NF, by omega⟩]
   ·rw [if_neg (fun x => FZ x.2), if_neg (fun x => by omega)]
  ·rw [if_neg (fun x => NF x.1), if_neg (fun x => NF x.1)]
theorem vq.done (h : vq m p (zm m m.length) l) : l = xe m p := by
 apply List.ext_getElem?
 intro d;unfold xe;rw [List.getElem?_map];by_cases hd : d < m.length
 ·rw [h.2 d hd, List.getD_eq_getElem?_getD, List.getElem?_eq_getElem hd];simp only [Option.map_some, Option.getD_some, Option.some.injEq];by_cases h3 : m[d] = 3
  ·rw [if_pos h3, if_pos ⟨h3, oK (by rw [List.getElem?_eq_getElem hd, h3]) hd⟩]
  ·rw [if_neg h3, if_neg (fun x => h3 x.1)]
 ·rw [List.getElem?_eq_none (by rw [h.1]; omega), List.getElem?_eq_none (by omega)]; rfl
end
theorem wo (m : List Int) (p : Int) : (xe m p).length = m.length := List.length_map _
def FiG (W : World) (B1 B0 : Nat) (Ak Au : Option Addr) (ck u cu : Nat) (m : List Int) (p : Int) (n gk : Nat) (iv : Value) (wr : World) : Prop := ∃ (j : Nat) (l : List Int), iv = .int .i64 j ∧ j ≤ n ∧ gk = n - j ∧ Hid (zL wr B0 Ak m.length ck l) ∧ Hid (vq m p j l) ∧ Hid (zL wr B1 Au u cu ((wA m m.length).map (Nat.cast (R := Int)))) ∧ Hid (W.grownBy wr (Value.slice Ak m.length ck).ownBlock)
theorem nk (A : Option Addr) (c B : Nat) (m : List Int) (p : Int) (w : World) (hs : Sl w B 1 A m.length c (zE m)) (hB : B ≤ w.heap.size) (hn : m.length ≤ 1000) : Calls prog 188 #[.slice A m.length c, .int .i64 p] w (xB w (xe m p)) := by
 have HS := iD hs;have HC := iD (yo A m.length c B m w hs hB (by omega));clear hs
 go_enter func188, ntmps188
 go_wp2_with fail
 refine HC.mono ?_;rintro e w1 ⟨Ak, ck, rfl, Hq, AV⟩
 go_wp2_with fail
 refine (vz A m.length c B m w1 (HS.below AV hB) (Nat.le_trans hB AV.size) (by omega)).mono ?_;rintro e W ⟨Au, u, cu, rfl, hu, Nu, AZ⟩;have AQ := iD (AV.trans (AZ.mono AV.size));have HOW : Hid (zL W w.heap.size Ak m.length ck m) := Hq.later AZ.out;have ER := AV.size;have Dz : Hid (∀ q, (Value.slice Ak m.length ck).ownBlock = some q → w.heap.size ≤ q ∧ q < w1.heap.size) := Hq.lt;have WY := iD (vq.start (m := m) (p := p));clear Hq HC AV AZ;have AL : u ≤ 1000 := by have := kK m m.length; have := hu.out; omega
 have AE := iD (yx W (Value.slice Ak m.length ck).ownBlock)
 go_wp2_with fail
 go_loopg [13] u (FiG W w1.heap.size w.heap.size Ak Au ck u cu m p u)
 case atStart => exact ⟨0, m, rfl, Nat.zero_le _, rfl, HOW, WY, Nu, AE⟩
 case round =>
  clear HOW WY Nu AE;obtain ⟨j, l, rfl, hj, rfl, hO, VB, Nu, RX⟩ := hrel;by_cases QG : j < u
  ·obtain ⟨ub, uo, x, rfl, AK, hx, DK⟩ := Nu.sl.at1 QG;rw [List.getElem?_map] at hx
   obtain ⟨d, hd, rfl⟩ : ∃ d, (wA m m.length)[j]? = some d ∧ (d : Int) = x := by
    rcases hq : (wA m m.length)[j]? with _ | d
    ·rw [hq] at hx; cases hx
    ·rw [hq] at hx; exact ⟨d, rfl, by injection hx⟩
   have JU : d < m.length := (uM m _ _ _ hd).2.1;have Jy := iD (VB.step hd);have AG := Dz.out;have AB := Nu.lt;obtain ⟨gk, y, rfl, IW, AO, hy, JV, VA, hst⟩ := hO.at JU;have AP := (AG gk rfl).2;have NL := iD (hst p);have AA := iD (Nu.kept (zg wr ⟨gk, d, none⟩ (.int .i64 p)) (zb fun b e => by have := (AB b e).1; simp; omega));have Hz : Hid (W.grownBy (wr.setCell ⟨gk, d, none⟩ (.int .i64 p)) (Value.slice (some ⟨gk, 0, none⟩) m.length ck).ownBlock) := zG RX (zg wr ⟨gk, d, none⟩ (.int .i64 p));clear hx hd hy hst hO Nu RX AB AG
   go_wp2_with fail
   go_roundg (u - (j + 1))
   ·exact ⟨j + 1, _, by go_num, by omega, rfl, NL, Jy, AA, Hz⟩
   omega
  ·obtain rfl : j = u := by omega
   have IV : decide (j < j) = false := by simp
   have AH : Hid (l = xe m p) := by
    have := VB.out;rw [hu.out] at this;exact this.done
   have Bj : Hid (Below w.heap.size w wr) := AQ.trans ⟨RX.os, RX.tape, RX.output, RX.size, fun q hq => RX.block q (by have := AQ.size; omega) (fun e => by have := (Dz q e.symm).1; omega)⟩
   go_wp2_with fail
   go_ret;rw [AH.out] at hO;exact ⟨Ak, ck, by rw [wo]; rfl, by unfold Hid; rw [wo]; exact hO, Bj⟩
theorem nh (A : Option Addr) (c B : Nat) (m : List Int) (w : World) (hs : Sl w B 1 A m.length c (zE m)) (hB : B ≤ w.heap.size) (hn : m.length ≤ 1000) : Calls prog 171 #[.slice A m.length c] w (xB w (xe m 2)) := by
 have HC := iD (nk A c B m 2 w hs hB hn);clear hs
 go_enter func171, ntmps171
 go_wp2_with fail
 refine HC.mono ?_;rintro e w1 ⟨A1, c1, rfl, hO, hb⟩
 go_wp2_with fail
 go_ret;exact ⟨A1, c1, rfl, hO, hb⟩
section
open Classical in
noncomputable def vk (ns : List Nd) (ds : List Dv) (m : List Int) (d p co : Int) (ls : List Lk) (pr : List Int) : List Int :=
 match ds[d.toNat]? with
 | some x => [1, 2, 3, 4, 5, 6, 7].filter fun h => decide (gO ns.length ns ds (yp m) (m.getD d.toNat 0) d.toNat p co ls pr x h)
 | none => []
theorem iX {x : Dv} (hx : ds[d.toNat]? = some x) (h : Int) :
 h ∈ vk ns ds m d p co ls pr ↔ gO ns.length ns ds (yp m) (m.getD d.toNat 0) d.toNat p co ls pr x h := by
 unfold vk;rw [hx];simp only [List.mem_filter, decide_eq_true_eq]
 constructor
 ·exact fun h => h.2
 ·intro hp;refine ⟨?_, hp⟩;obtain ⟨s, -, h1, -⟩ := hp;have := uy h1;simp only [List.mem_cons, List.not_mem_nil, or_false];omega
theorem iW {x : Dv} (hx : ds[d.toNat]? = some x) : fO ns ds m d p co ls pr x (vk ns ds m d p co ls pr) := by
 refine ⟨?_, ?_, fun h => iX hx h⟩
 ·unfold vk; rw [hx]; exact List.Nodup.sublist List.filter_sublist (by decide)
 ·unfold vk; rw [hx]; exact List.Pairwise.sublist List.filter_sublist (by decide)
theorem oC {x : Dv} {out : List Int} (hx : ds[d.toNat]? = some x) (h : fO ns ds m d p co ls pr x out) : out = vk ns ds m d p co ls pr :=
 ld.unique h (iW hx)
theorem iY (ns : List Nd) (ds : List Dv) (m : List Int) (d p co : Int) (ls : List Lk) (pr : List Int) : (vk ns ds m d p co ls pr).length ≤ 7 := by
 unfold vk;split
 ·exact Nat.le_trans (List.length_filter_le _ _) (by decide)
 ·exact Nat.zero_le _
def rA (m p : Int) : Bool := !decide (m = p) && !decide (m = 3)
def su (m p : Int) : List Int := if m = p then [] else [8]
structure Co where
 e : Int
 h : List Int
 t : Sm
 ov : Bool
noncomputable def zn (ns : List Nd) (ds : List Dv) (co : Int) (t : Sm) (x : Sp) : Co :=
 if x.kind = 1 ∨ x.kind = 2 then ⟨yG t.s, vk ns ds t.s x.dev x.kind co t.ls t.pr, ⟨t.s.set x.dev.toNat x.kind, t.ls, if tB ds x.kind x.dev then [] else t.pr⟩, false⟩
 else if x.kind = 5 then (if JM (zW ns.length ds (xe t.s 2)) x.node then ⟨0, [8], t, false⟩ else ⟨0, [], ⟨t.s, t.ls, ws t.pr x.node⟩, false⟩)
 else if x.kind = 4 then (if (yA ns ds t.ls x).2 then ⟨0, [], ⟨t.s, (yA ns ds t.ls x).1, t.pr⟩, false⟩ else ⟨0, [4], t, false⟩)
 else if rA (t.s.getD x.dev.toNat 0) x.pos then ⟨0, [8], t, true⟩
 else if x.kind = 6 then ⟨0, su (t.s.getD x.dev.toNat 0) x.pos, ⟨t.s.set x.dev.toNat x.pos, t.ls, t.pr⟩, false⟩
 else if (yA ns ds t.ls x).2 then ⟨0, su (t.s.getD x.dev.toNat 0) x.pos, ⟨t.s.set x.dev.toNat x.pos, (yA ns ds t.ls x).1, t.pr⟩, false⟩
 else ⟨0, 4 :: su (t.s.getD x.dev.toNat 0) x.pos, ⟨t.s.set x.dev.toNat x.pos, t.ls, t.pr⟩, false⟩
section
variable {ns : List Nd} {ds : List Dv} {co : Int} {t : Sm} {x : Sp}
theorem gH (hk : x.kind = 1 ∨ x.kind = 2) : zn ns ds co t x = ⟨yG t.s, vk ns ds t.s x.dev x.kind co t.ls t.pr, ⟨t.s.set x.dev.toNat x.kind, t.ls, if tB ds x.kind x.dev then [] else t.pr⟩, false⟩ := by unfold zn; rw [if_pos hk]
theorem fc (hk : x.kind = 5) : zn ns ds co t x = if JM (zW ns.length ds (xe t.s 2)) x.node then ⟨0, [8], t, false⟩ else ⟨0, [], ⟨t.s, t.ls, ws t.pr x.node⟩, false⟩ := by
 unfold zn; rw [if_neg (by omega), if_pos hk]
theorem fd (hk : x.kind = 4) : zn ns ds co t x = if (yA ns ds t.ls x).2 then ⟨0, [], ⟨t.s, (yA ns ds t.ls x).1, t.pr⟩, false⟩ else ⟨0, [4], t, false⟩ := by
 unfold zn; rw [if_neg (by omega), if_neg (by omega), if_pos hk]
theorem qF (hk : x.kind = 3 ∨ x.kind = 6) : zn ns ds co t x = if rA (t.s.getD x.dev.toNat 0) x.pos then ⟨0, [8], t, true⟩
 else if x.kind = 6 then ⟨0, su (t.s.getD x.dev.toNat 0) x.pos, ⟨t.s.set x.dev.toNat x.pos, t.ls, t.pr⟩, false⟩
 else if (yA ns ds t.ls x).2 then ⟨0, su (t.s.getD x.dev.toNat 0) x.pos, ⟨t.s.set x.dev.toNat x.pos, (yA ns ds t.ls x).1, t.pr⟩, false⟩
 else ⟨0, 4 :: su (t.s.getD x.dev.toNat 0) x.pos, ⟨t.s.set x.dev.toNat x.pos, t.ls, t.pr⟩, false⟩ := by
 unfold zn; rw [if_neg (by omega), if_neg (by omega), if_neg (by omega)]
end
structure Cr where
 e : Int
 o : List Fn
 t : Sm
noncomputable def zo (ns : List Nd) (ds : List Dv) (co : Int) : Nat → List Fn → Sm → List Sp → Cr
 | _, out, t, [] => ⟨0, out, t⟩
 | i, out, t, x :: r =>
  if (zn ns ds co t x).e ≠ 0 then ⟨(zn ns ds co t x).e, [], ⟨[], [], []⟩⟩
  else if (zn ns ds co t x).ov then ⟨0, out ++ yD i (zn ns ds co t x).h, (zn ns ds co t x).t⟩
  else zo ns ds co (i + 1) (out ++ yD i (zn ns ds co t x).h) (zn ns ds co t x).t r
def yX (ns : List Nd) (ds : List Dv) (m : List Int) (co : Int) (ls : List Lk) (pr : List Int) (nm : ByteArray) (xs : List Sp) : Int :=
 if zU ns ds m ≠ 0 then zU ns ds m else if xJ ns ds co ls pr ≠ 0 then xJ ns ds co ls pr else xw ns ds nm xs
structure uL (ns : List Nd) (ds : List Dv) (t : Sm) : Prop where
 s : zU ns ds t.s = 0
 l : zJ ns ds t.ls = 0
 p : yr ns.length (-1) t.pr = true
theorem qH {nm : ByteArray} (h : yX ns ds m co ls pr nm xs = 0) :
 uL ns ds ⟨m, ls, pr⟩ ∧ (0 ≤ co ∧ co ≤ 7) ∧ xs.length ≤ 64 ∧ zz ns.length ds.length xs = 0 := by
 unfold yX at h;split at h
 ·next h1 => exact absurd h h1
 next h1 =>
 split at h
 ·next h2 => exact absurd h h2
 next h2 =>
 have h2 : xJ ns ds co ls pr = 0 := by simpa using h2
 unfold xJ at h2;split at h2
 ·cases h2
 next g1 =>
 split at h2
 ·next g2 => exact absurd h2 g2
 next g2 =>
 split at h2
 ·cases h2
 next g3 =>
 unfold xw at h;split at h
 ·next h3 => exact absurd h h3
 split at h
 ·cases h
 split at h
 ·cases h
 next h5 => exact ⟨⟨by simpa using h1, by simpa using g2, by simpa using g3⟩, by omega, by omega, h⟩
theorem vG {v : Int} (h : zU ns ds s = 0) (hv : v = 1 ∨ v = 2) : zU ns ds (s.set i v) = 0 := by
 unfold zU at h ⊢;split at h
 ·next h1 => exact absurd h h1
 next h1 =>
 rw [if_neg h1];split at h
 ·cases h
 next h2 =>
 rw [if_neg (by simpa using h2)];split at h
 ·next h3 =>
  rw [if_pos];intro p hp;rcases List.mem_or_eq_of_mem_set hp with hp | rfl
  ·exact h3 p hp
  ·unfold zl; rcases hv with rfl | rfl <;> simp
 ·cases h
theorem nU (x : Sp) (hc : zR ns ds = 0) (h : zJ ns ds ls = 0) : zJ ns ds (yA ns ds ls x).1 = 0 := by
 unfold yA;split
 ·split
  ·exact h
  ·next h0 => exact tM hc (add_zero (by simpa using h0))
 ·split
  ·exact h
  ·exact tM hc (iz (yw h) (List.eraseIdx_sublist _ _))
theorem oN (h : uL ns ds t) (hx : zc ns.length ds.length x = 0) : uL ns ds (zn ns ds co t x).t := by
 obtain ⟨h1, h2, h3, h4, h5⟩ := wN hx;have hc := (zS h.s).1;unfold zn;split
 ·next hk => exact ⟨vG h.s hk, h.l, by dsimp only; split <;> first | rfl | exact h.p⟩
 next k12 =>
 split
 ·next hk =>
  split
  ·exact h
  ·exact ⟨h.s, h.l, ku h.p (h3 hk).1 (h3 hk).2⟩
 next k5 =>
 split
 ·split
  ·exact ⟨h.s, nU x hc h.l, h.p⟩
  ·exact h
 next k4 =>
 have hp := h4 (by omega);split
 ·exact h
 split
 ·exact ⟨vG h.s hp, h.l, h.p⟩
 split
 ·exact ⟨vG h.s hp, nU x hc h.l, h.p⟩
 ·exact ⟨vG h.s hp, h.l, h.p⟩
theorem kP (h : zU ns ds m = 0) (hd : ds.length ≤ 8) : yG m = 0 := by
 obtain ⟨h1, h2, h3⟩ := zS h;unfold yG;rw [if_pos (by simpa [List.all_eq_true] using h3), if_neg];have := kK m m.length;omega
theorem lr (hm : zU ns ds m = 0) (hi : i < m.length) : m[i]? = some 1 ∨ m[i]? = some 2 ∨ m[i]? = some 3 := by
 have h := (zS hm).2.2 _ (List.getElem_mem hi);unfold zl at h;simp only [Bool.and_eq_true, decide_eq_true_eq] at h;rw [List.getElem?_eq_getElem hi];simp only [Option.some.injEq];omega
theorem kF {y : Int} (h : s[i]? = some y) : s.getD i 0 = y := by rw [List.getD_eq_getElem?_getD, h]; rfl
theorem fj {y : Int} (h : s[i]? = some y) : s.set i y = s := by
 refine List.ext_getElem? fun k => ?_
 rw [List.getElem?_set];by_cases e : i = k
 ·subst e; rw [if_pos rfl, h, if_pos (List.getElem?_eq_some_iff.1 h).1]
 ·rw [if_neg e]
theorem vJ (hx : xs[i]? = some x) (he : (zn ns ds co t x).e = 0) (ho : (zn ns ds co t x).ov = false) :
 zo ns ds co i out t (xs.drop i) = zo ns ds co (i + 1) (out ++ yD i (zn ns ds co t x).h) (zn ns ds co t x).t (xs.drop (i + 1)) := by
 obtain ⟨hi, rfl⟩ := List.getElem?_eq_some_iff.mp hx;rw [List.drop_eq_getElem_cons hi, zo, if_neg (by simp [he]), if_neg (by simp [ho])]
theorem jZ (hx : xs[i]? = some x) (he : (zn ns ds co t x).e ≠ 0) :
 zo ns ds co i out t (xs.drop i) = ⟨(zn ns ds co t x).e, [], ⟨[], [], []⟩⟩ := by
 obtain ⟨hi, rfl⟩ := List.getElem?_eq_some_iff.mp hx;rw [List.drop_eq_getElem_cons hi, zo, if_pos he]
theorem qG (hx : xs[i]? = some x) (he : (zn ns ds co t x).e = 0) (ho : (zn ns ds co t x).ov = true) :
 zo ns ds co i out t (xs.drop i) = ⟨0, out ++ yD i (zn ns ds co t x).h, (zn ns ds co t x).t⟩ := by
 obtain ⟨hi, rfl⟩ := List.getElem?_eq_some_iff.mp hx;rw [List.drop_eq_getElem_cons hi, zo, if_neg (by simp [he]), if_pos ho]
theorem pS (hx : xs.length ≤ i) : zo ns ds co i out t (xs.drop i) = ⟨0, out, t⟩ := by
 rw [List.drop_eq_nil_of_le hx, zo]
end
section
variable (ns : List Nd) (ds : List Dv) (co : Int) (t : Sm) (d v p q : Int)
theorem ie (h : (yA ns ds ls x).2 = false) : (yA ns ds ls x).1 = ls := by
 unfold yA at h ⊢;split at h
 ·next h1 =>
  rw [if_pos h1];split at h
  ·next h2 => rw [if_pos h2]
  ·cases h
 ·next h1 =>
  rw [if_neg h1];split at h
  ·rfl
  ·cases h
end
structure xF (w : World) (A1 A2 Al Ap : Option Addr) (n1 c1 n2 c2 nl cl np cp : Nat) (o : So) : Prop where
 h : BI w 1 A1 n1 c1 (zE o.h)
 s : BI w 1 A2 n2 c2 (zE o.t.s)
 l : BI w 3 Al nl cl (o.t.ls.flatMap Lk.cells)
 p : BI w 1 Ap np cp (zE o.t.pr)
def Ji (B : Nat) (A A' : Option Addr) (n n' : Nat) : Prop := A' = A ∧ n' = n ∨ ∀ b off, A' = some ⟨b, off, none⟩ → B ≤ b
theorem rE {z : World} {bq : Nat} {v : Int} (hv : AJ z bq 3 #[.int .i64 v]) : BI z 1 (some ⟨bq, 0, none⟩) 1 1 (zE [v]) :=
 ⟨rfl, Nat.le_refl _, by decide, (fun e => by cases e), fun _ => ⟨bq, 0, rfl, hv.lt, fun j u hu => by rw [Nat.zero_add, hv.cell]; simpa [zE] using hu⟩⟩
theorem mK {w : World} {g x : Nat} {t : TypeId} {cs : Array Value} {a b d : Value} (h : AJ w g t cs) (hg : g ≠ x) : AJ (((w.setCell ⟨x, 0, none⟩ a).setCell ⟨x, 1, none⟩ b).setCell ⟨x, 2, none⟩ d) g t cs := ((h.far (p := ⟨x, 0, none⟩) hg a).far (p := ⟨x, 1, none⟩) hg b).far (p := ⟨x, 2, none⟩) hg d
theorem KE.cells {w wr : World} {An Ad Al Ap : Option Addr} {nn cn nd cd nl cl np cp : Nat} {k no q : Int} (h : KE w #[.slice An nn cn, .slice Ad nd cd] #[.int .i64 co, .slice Al nl cl, .slice Ap np cp] #[.int .i64 k, .int .i64 d, .int .i64 no, .int .i64 p, .int .i64 q] wr) :
 (wr.cell? ⟨w.heap.size, 0, none⟩ = some (.slice An nn cn) ∧ wr.cell? ⟨w.heap.size, 1, none⟩ = some (.slice Ad nd cd)) ∧ (wr.cell? ⟨w.heap.size + 1, 0, none⟩ = some (.int .i64 co) ∧ wr.cell? ⟨w.heap.size + 1, 1, none⟩ = some (.slice Al nl cl) ∧ wr.cell? ⟨w.heap.size + 1, 2, none⟩ = some (.slice Ap np cp)) ∧ wr.cell? ⟨w.heap.size + 2, 0, none⟩ = some (.int .i64 k) ∧ wr.cell? ⟨w.heap.size + 2, 1, none⟩ = some (.int .i64 d) ∧ wr.cell? ⟨w.heap.size + 2, 2, none⟩ = some (.int .i64 no) ∧ wr.cell? ⟨w.heap.size + 2, 3, none⟩ = some (.int .i64 p) ∧ wr.cell? ⟨w.heap.size + 2, 4, none⟩ = some (.int .i64 q) :=
 ⟨⟨h.b0.cell 0, h.b0.cell 1⟩, ⟨h.b1.cell 0, h.b1.cell 1, h.b1.cell 2⟩, h.b2.cell 0, h.b2.cell 1, h.b2.cell 2, h.b2.cell 3, h.b2.cell 4⟩
open Go.RowKit
theorem KE.put {w wr : World} {nt gr st : Array Value} {g i : Nat} {u : Value} (h : KE w nt gr st wr) (hg : w.heap.size + 3 < g) : KE w nt gr st (wr.setCell ⟨g, i, none⟩ u) :=
 ⟨h.b0.far (by show w.heap.size ≠ g; omega) _, h.b1.far (by show w.heap.size + 1 ≠ g; omega) _, h.b2.far (by show w.heap.size + 2 ≠ g; omega) _, h.b3.far (by show w.heap.size + 3 ≠ g; omega) _, h.bl.setCell (by show w.heap.size ≤ g; omega) _⟩
end Go.Proofs.YtkkobemhbicjgaaGreatDoor
