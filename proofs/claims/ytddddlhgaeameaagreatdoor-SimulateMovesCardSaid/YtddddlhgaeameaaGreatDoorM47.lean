import Derived.Test.YtddddlhgaeameaaGreatDoorM43
import Derived.Test.YtddddlhgaeameaaGreatDoorM46
set_option maxRecDepth 100000
set_option maxHeartbeats 32000000
namespace Go.Proofs.YtddddlhgaeameaaGreatDoor
open Go.RowKit
section
variable {P : Program} {ops : Array Oper} {Q : Exit → Act → World → Prop} {md : Region.Mode} {S : World → Prop} {J : List Nat}
theorem qqK (i d : Nat) {oi : Oper} {v : Value} {fuel : Nat} {listed : Array Bool} (L : Array Bool) {a a' : Act} {w : World} (hS : S w) (h : zb P md ops Q S J fuel L a' w)
 (hi : ops[i]? = some oi := by rfl) (hd : oi.dst = some d := by rfl) (hy : ∀ w, S w → (execOp a.eval oi).run P w = .ok (.value v) w := by intro w hSw; (try dsimp only at hSw); go_simp; try with_reducible rfl) (hp : a.put (some d) v = a' := by (try simp only [Act.put, sA, sB, sC]); rfl) (hw : Region.wanted oi (yielded ops a.tmps) = true := by rfl) (hl : listed.setIfInBounds i true = L := by as_aux_lemma => kernel_rfl) (hs : Region.noSelect ops = true := by as_aux_lemma => kernel_rfl) (hf : Region.free md ops listed i = true := by as_aux_lemma => kernel_rfl) (hr : (Region.ready md ops listed).contains i = true := by as_aux_lemma => kernel_rfl) (hc : xj md ops listed = true := by as_aux_lemma => kernel_rfl) (hJ : J.all (ve md ops i ops.size) = true := by as_aux_lemma => kernel_rfl) (hQ : ∀ c a w, Q (.panic c) (a.put oi.dst v) w → Q (.panic c) a w := by exact fun _ _ _ h => h) : zb P md ops Q S J (fuel + 1) listed a w :=
 xI L hl hi hd hs hf hr hc hJ hQ (Or.inl ⟨hw, hy⟩) hS (hp ▸ h)
theorem qqX (i d : Nat) {oi : Oper} (v : Value) {fuel : Nat} {listed : Array Bool} (L : Array Bool) {a a' : Act} {w : World} (hy : ∀ w, S w → (execOp a.eval oi).run P w = .ok (.value v) w) (hS : S w) (h : zb P md ops Q S J fuel L a' w)
 (hi : ops[i]? = some oi := by rfl) (hd : oi.dst = some d := by rfl) (hp : a.put (some d) v = a' := by (try simp only [Act.put, sA, sB, sC]); rfl) (hw : Region.wanted oi (yielded ops a.tmps) = true := by rfl) (hl : listed.setIfInBounds i true = L := by as_aux_lemma => kernel_rfl) (hs : Region.noSelect ops = true := by as_aux_lemma => kernel_rfl) (hf : Region.free md ops listed i = true := by as_aux_lemma => kernel_rfl) (hr : (Region.ready md ops listed).contains i = true := by as_aux_lemma => kernel_rfl) (hc : xj md ops listed = true := by as_aux_lemma => kernel_rfl) (hJ : J.all (ve md ops i ops.size) = true := by as_aux_lemma => kernel_rfl) (hQ : ∀ c a w, Q (.panic c) (a.put oi.dst v) w → Q (.panic c) a w := by exact fun _ _ _ h => h) : zb P md ops Q S J (fuel + 1) listed a w :=
 xI L hl hi hd hs hf hr hc hJ hQ (Or.inl ⟨hw, hy⟩) hS (hp ▸ h)
end
theorem mS (ns : List Nd) (ds : List Dv) (co : Int) (t : Sm) (x : Sp) : (zf ns ds co t x).t.s.length = t.s.length := by
 unfold zf
 split
 ·simp
 split
 ·split <;> rfl
 split
 ·split <;> rfl
 split
 ·rfl
 split
 ·rfl
 split <;> rfl
theorem kj {ns : List Nd} {ds : List Dv} {s : List Int} {co : Int} {ls : List Lk} {pr : List Int} {x : Sp} (hs : zL ns ds s = 0) (hc : zR ns ds = 0) (hco : 0 ≤ co ∧ co ≤ 7) (hg : xq ds ls) (hp : yi ns.length (-1) pr = true) (hx : zc ns.length ds.length x = 0) : yw ns ds s co ls pr ⟨#[80]⟩ [x] = 0 := by
 have h1 : xD ns ds co ls pr = 0 := by
  unfold xD; rw [if_neg (by omega), if_neg (by rw [sX hc hg]; simp), if_neg (by simp [hp])]
 have h2 : yN ns ds ⟨#[80]⟩ [x] = 0 := by
  unfold yN; rw [if_neg (by simp [hc]), if_neg (by decide), if_neg (by simp)]
  unfold zz; rw [if_neg (by simp [hx])]; rfl
 unfold yw; rw [if_neg (by simp [hs]), if_neg (by simp [h1]), h2]
theorem tD {ls : List Lk} {i : Decidable (ls = ls)} : @decide (ls = ls) i = true := decide_eq_true rfl
theorem ni {co : Int} {ls : List Lk} {pr : List Int} {i : Decidable (ls = ls)} : (decide (co = co) && @decide (ls = ls) i && decide (pr = pr)) = true := by simp
theorem lZ (pr : List Int) (v : Int) : v ∈ xn pr v := by
 unfold xn; split
 ·assumption
 ·simp
theorem iE {ns : List Nd} {ds : List Dv} {co : Int} {t : Sm} {k d no p q : Int} {i : Nat} {x y : Int} (hx : t.s[i]? = some x) (hy : (zf ns ds co t ⟨k, d, no, p, q⟩).t.s[i]? = some y) (hd : k = 1 ∨ k = 2 → 0 ≤ d) : y = if (k = 1 ∨ k = 2) ∧ (i : Int) = d then k else x := by
 by_cases hk : k = 1 ∨ k = 2
 ·rw [uo _ _ _ _ _ _ _ _ hk] at hy
  dsimp only at hy
  rw [List.getElem?_set] at hy
  have hi := (List.getElem?_eq_some_iff.mp hx).1
  have h0 := hd hk
  by_cases e : (i : Int) = d
  ·rw [if_pos (by omega), if_pos (by omega)] at hy
   rw [if_pos ⟨hk, e⟩]; exact (Option.some.inj hy).symm
  ·rw [if_neg (by omega)] at hy
   rw [if_neg (by rintro ⟨-, h⟩; exact e h)]
   rw [hx] at hy; exact (Option.some.inj hy).symm
 ·rw [if_neg (by rintro ⟨h, -⟩; exact hk h)]
  have e : (zf ns ds co t ⟨k, d, no, p, q⟩).t.s = t.s := by
   unfold zf
   rw [if_neg hk]
   split
   ·split <;> rfl
   split
   ·split <;> rfl
   split
   ·rfl
   split
   ·rfl
   split <;> rfl
  rw [e, hx] at hy; exact (Option.some.inj hy).symm
def HrQ (M : World → Prop) (n gk : Nat) (iv : Value) (wr : World) : Prop := ∃ i : Nat, iv = .int .i64 i ∧ i ≤ n ∧ gk = n - i ∧ Hid (M wr)
structure MvM (w : World) (nb x7 x9 x10 : Nat) (An Ad As Ag Ap A1 A2 B3 B4 : Option Addr) (nn cn nd cd cs mg cg np cp n1 c1 n2 c2 m3 e3 m4 e4 : Nat) (ns : List Nd) (ds : List Dv) (s : List Int) (ls : List Lk) (pr : List Int) (co : Int) (st : Array Value) (o : So) (wr : World) : Prop where
 z : yp wr An Ad As Ag Ap nn cn nd cd nd cs mg cg np cp ns ds s ls pr
 bn : Blk wr nb 26 #[.slice An nn cn, .slice Ad nd cd]
 bg : Blk wr x7 29 #[.int .i64 co, .slice Ag mg cg, .slice Ap np cp]
 bs : Blk wr x9 31 st
 by' : Blk wr x10 29 #[.int .i64 co, .slice B3 m3 e3, .slice B4 m4 e4]
 a : xH wr A1 A2 B3 B4 n1 c1 n2 c2 m3 e3 m4 e4 o
 bl : Below w.heap.size w wr
theorem MvM.later {w : World} {nb x7 x9 x10 : Nat} {An Ad As Ag Ap A1 A2 B3 B4 : Option Addr} {nn cn nd cd cs mg cg np cp n1 c1 n2 c2 m3 e3 m4 e4 : Nat} {ns : List Nd} {ds : List Dv} {s : List Int} {ls : List Lk} {pr : List Int} {co : Int} {st : Array Value} {o : So} {wr wr' : World} (h : MvM w nb x7 x9 x10 An Ad As Ag Ap A1 A2 B3 B4 nn cn nd cd cs mg cg np cp n1 c1 n2 c2 m3 e3 m4 e4 ns ds s ls pr co st o wr) (hb : Below wr.heap.size wr wr') : MvM w nb x7 x9 x10 An Ad As Ag Ap A1 A2 B3 B4 nn cn nd cd cs mg cg np cp n1 c1 n2 c2 m3 e3 m4 e4 ns ds s ls pr co st o wr' :=
 ⟨h.z.below hb, h.bn.below hb h.bn.lt, h.bg.below hb h.bg.lt, h.bs.below hb h.bs.lt, h.by'.below hb h.by'.lt, h.a.later hb, h.bl.trans (hb.mono h.bl.size)⟩
theorem Sl.iL {w : World} {B n c : Nat} {A : Option Addr} {l : List Int} (h : Sl w B 1 A n c (zK l)) : l.length = n := h.len (fun _ => rfl) (by decide)
theorem walk_SimulateMoves (w : World) (hl : Laid w) (A : Option Addr) (n c : Nat) (zs : List Int) (hs : Sl w w.heap.size 1 A n c (zK zs)) (_hz : ∀ z ∈ zs, (Lit.int .i64 z).wf = true) :
 Calls Tryz.prog 5 #[.slice A n c] w fun e w' => e = .returned (.bool true) ∧ Below w.heap.size w w' := by
 have hnm := hs.le
 have HL := iD hl; have HS := iD hs
 clear hl hs _hz
 have HF := iD (jK A n c w (by omega))
 rcases hf : decide (n ≤ 400) with _ | _
 ·rw [hf] at HF
  clear hf
  go_enter Tryz.func5, Tryz.ntmps5
  go_wp2_with fail
  refine HF.out.mono ?_
  rintro e w1 ⟨rfl, rfl⟩
  go_wp2_with fail
  refine (yL w HL.out).mono ?_
  rintro e w1 ⟨rfl, hb⟩
  go_wp2_with fail
  go_ret
  exact ⟨rfl, hb⟩
 rw [hf] at HF
 clear hf
 go_enter Tryz.func5, Tryz.ntmps5
 go_wp2_with fail
 refine HF.out.mono ?_
 rintro e w1 ⟨rfl, rfl⟩
 go_wp2_with fail
 refine (jB A n c w.heap.size zs w HS.out lR).mono ?_
 rintro e w1 ⟨rfl, hd1, hb1, hs1⟩
 go_wp2_with fail
 refine (mi w.heap.size 6 9 w1 hd1.out (by decide) (by decide)).mono ?_
 rintro e w2 ⟨An, nn, cn, ns, Ad, nd, cd, ds, rfl, hd2, hg2, hrn, hrd, Fp⟩
 have Ff := LwN.mk0 HL.out hb1.out hs1.out hd2.out hg2.out hrn.out hrd.out Fp.out
 have FJ := iD Ff.2.1; have HND := iD Ff.2.2
 have FK := iD Ff.1
 have HMA := iD Fp.out
 have hnd : nd ≤ 9 := by have := Fp.out.dm; rw [HND.out] at this; omega
 have hnd1 : 1 ≤ nd := by have := Fp.out.d1; rw [HND.out] at this; omega
 have hnn : nn ≤ 6 := by have := Fp.out.nm; rw [FJ.out] at this; omega
 have HNM := iD HMA.out.names
 have HCK := iD (HMA.out.check (by decide) (by decide))
 clear Ff hd1 hb1 hs1 hd2 hg2 hrn hrd Fp HS HF
 go_wp2_with fail
 generalize World.alloc _ _ = w3 at *
 obtain ⟨nb, hnb⟩ : ∃ nb, nb = w2.heap.size := ⟨_, rfl⟩
 rw [← hnb] at FK ⊢
 clear hnb
 refine (pm w.heap.size An Ad nn cn nd cd ds w3 FK.out.dk FK.out.hd (by omega)).mono ?_
 rintro e w5 ⟨As, cs, s, rfl, hd5, hg5, hO5, hpos⟩
 have HM6 : Hid (LwN w nb An nn cn ns Ad nd cd ds w5 ∧ SlX w5 w.heap.size 1 As nd cs (zK s)) := ⟨FK.out.grown HL.out hg5.out hd5.out, SlX.of_own hO5.out (by have := FK.out.bl.size; have := FK.out.bx.lt; have := FK.out.ge; omega)⟩
 have HLS : Hid (s.length = nd) := hO5.out.len
 have hw6 : w.heap.size < w5.heap.size := hd5.out.lt
 clear hd5 hg5 hO5 FK
 go_upto_region 6 with (fail)
 obtain ⟨M, hM⟩ : ∃ M : World → Prop, M = fun W' => LwN w nb An nn cn ns Ad nd cd ds W' ∧ SlX W' w.heap.size 1 As nd cs (zK s) := ⟨_, rfl⟩
 have HKM : Hid (ww w.heap.size M) := by unfold Hid; rw [hM]; exact (ww.lwn HL.out).and ww.slx
 have Fv : Hid (∀ W', M W' → LwN w nb An nn cn ns Ad nd cd ds W' ∧ SlX W' w.heap.size 1 As nd cs (zK s)) := fun W' h => by rw [hM] at h; exact h
 have FE : Hid (M w5) := by unfold Hid; rw [hM]; exact HM6.out
 have hgW : w.heap.size < w5.heap.size := hw6
 have HDW := iD HM6.out.1.dk
 have Fs : Hid (∀ W', GrB w5 w.heap.size W' → M W') := fun W' h => HKM.out.grown FE.out h.2 h.1
 clear hM HM6
 refine rS (S := fun W' => W'.cell? ⟨nb, 0, none⟩ = some (.slice An nn cn) ∧ W'.cell? ⟨nb, 1, none⟩ = some (.slice Ad nd cd)) (J := []) (n := _) ((0, true) :: (1, true) :: (2, true) :: (3, true) :: (4, true) :: []) ((8, false) :: []) [5, 6] [7] #[true, true, true, true, true, false, false, false, false] #[true, true, true, true, true, true, true, true, false] (by as_aux_lemma => kernel_rfl) (by rfl) (zM (k := 3) (by go_simp; rfl) (zM (k := 4) (by go_simp; rfl) (zM (k := 5) (by go_simp; rfl) yg))) ?_ (fun _ _ _ _ _ h => h) (fun Q2 A hsz hbase hn2 AA => ?_)
 ·exact ⟨(Fv.out _ FE.out).1.bx.cell 0, (Fv.out _ FE.out).1.bx.cell 1⟩
 try dsimp only at AA
 obtain ⟨b3, b4, b5, -⟩ := hbase
 refine ⟨oX A [(35, .slice As nd cs), (34, .agg #[.slice An nn cn, .slice Ad nd cd]), (33, .pointer (some ⟨w.heap.size, 0, none⟩)), (32, .agg #[.slice An nn cn, .slice Ad nd cd]), (31, .pointer (some ⟨w.heap.size, 0, none⟩))] 7 6 w5.heap.size 29 #[.int .i64 0, .slice none 0 0, .slice none 0 0] [(5, 36), (6, 37)] (GsF ds s nn 3 w5 w.heap.size), ?_, ?_, ?_, ?_⟩
 ·refine oM 0 31 ?_ rfl rfl rfl (zA rfl) AA (fun ρ AB => ?_) ?_
  rotate_left
  ·(have e3 := tm AB hsz 3 rfl (zJ b3); exact e3)
  refine oT 1 32 ?_ rfl rfl (zA rfl) AA (fun ρ AB w hSw => ?_) ?_
  rotate_left
  ·(have e4 := tm AB hsz 4 rfl (zD rfl (zJ b4)); clear AB; (try dsimp only at hSw); go_simp; try with_reducible rfl)
  refine oM 2 33 ?_ rfl rfl rfl (zA rfl) AA (fun ρ AB => ?_) ?_
  rotate_left
  ·(have e3 := tm AB hsz 3 rfl (zD rfl (zD rfl (zJ b3))); exact e3)
  refine oT 3 34 ?_ rfl rfl (zA rfl) AA (fun ρ AB w hSw => ?_) ?_
  rotate_left
  ·(have e4 := tm AB hsz 4 rfl (zD rfl (zD rfl (zD rfl (zJ b4)))); clear AB; (try dsimp only at hSw); go_simp; try with_reducible rfl)
  refine oM 4 35 ?_ rfl rfl rfl (zA rfl) AA (fun ρ AB => ?_) ?_
  rotate_left
  ·(have e5 := tm AB hsz 5 rfl (zH rfl rfl rfl rfl (zJ b5)); exact e5)
  exact jC ⟨[], 0, rfl, by decide, by decide, rfl, ⟨HDW.out.drew, rA (xC _ _)⟩, (show yx w5.heap.size _ _ _ _ _ from yx.start w5.drew 0)⟩
 ·intro c cs D a w0 h
  obtain ⟨vs, x7, hC, hnd, hDD, rfl, hf, hm⟩ := h
  rcases vs with _ | ⟨v1, _ | ⟨v2, _⟩⟩
  ·obtain ⟨rfl, rfl⟩ : c = 5 ∧ cs = [6] := by simpa using hC
   have hm0 := Fs.out _ hf
   have hle := hm.le
   refine pt (d := 36) (vs := #[.pointer (some ⟨w.heap.size, 0, none⟩), .agg #[.slice An nn cn, .slice Ad nd cd], .slice As nd cs, .int .i64 3]) rfl rfl rfl rfl (fun ρ AB => ?_) ?_ ?_
   ·(have hc := AB.const; have e33 := tm AB hsz 33 rfl (vJ rfl (zD rfl (zD rfl zB))); have e34 := tm AB hsz 34 rfl (vJ rfl (zD rfl zB)); have e35 := tm AB hsz 35 rfl (vJ rfl zB); simp only [List.map_toArray, List.map_cons, List.map_nil, e33, e34, e35, hc])
   ·(intro w; go_simp)
   refine (pn w.heap.size An Ad As nn cn nd cd nd cs 3 ns ds s w0 hf.1 (Fv.out _ hm0).1.hn (Fv.out _ hm0).1.hd (Fv.out _ hm0).2 (by omega) (by decide) HNM.out.1 HNM.out.2).mono ?_
   rintro e w6 ⟨Ag, mg, cg, ls, rfl, hd6, hg6, hO6, hL6⟩
   have FN : GrB w5 w.heap.size w6 := ⟨hd6.out, zP hf.2 hg6.out⟩
   refine ⟨_, rfl, fun _ => ?_, [.slice Ag mg cg], x7, rfl, hnd, hDD, rv A (by decide), ?_, hm.grown hg6.out hgW⟩
   ·exact ⟨(Fv.out _ (Fs.out _ FN)).1.bx.cell 0, (Fv.out _ (Fs.out _ FN)).1.bx.cell 1⟩
   ·exact ⟨FN, Ag, mg, cg, ls, rfl, World.ownsRow.mono hO6.out (by omega), hL6.out⟩
  ·obtain ⟨rfl, rfl⟩ : c = 6 ∧ cs = [] := by simpa using hC
   obtain ⟨hB, Ag, mg, cg, ls, rfl, hO, hL⟩ := hf
   have hle := hm.le
   refine pt (d := 37) (vs := #[.pointer (some ⟨w.heap.size, 0, none⟩), .agg #[.slice An nn cn, .slice Ad nd cd], .slice Ag mg cg]) rfl rfl rfl rfl (fun ρ AB => ?_) ?_ ?_
   ·(have e31 := tm AB hsz 31 rfl (vJ rfl (zD rfl (zD rfl (zD rfl (zD rfl (zD rfl zB)))))); have e32 := tm AB hsz 32 rfl (vJ rfl (zD rfl (zD rfl (zD rfl (zD rfl zB))))); have e36 := tm AB hsz 36 rfl (vJ rfl zB); simp only [List.map_toArray, List.map_cons, List.map_nil, e31, e32, e36])
   ·(intro w; go_simp)
   refine (rY w.heap.size An Ad Ag nn cn nd cd mg cg w0 hB.1 (by omega)).mono ?_
   rintro e w6 ⟨co, Ap, np, cp, pr, rfl, hco, hd6, hg6, hO6, hL6⟩
   have FN : GrB w5 w.heap.size w6 := ⟨hd6.out, zP hB.2 hg6.out⟩
   refine ⟨_, rfl, fun _ => ?_, [.slice Ag mg cg, .agg #[.int .i64 co, .slice Ag mg cg, .slice Ap np cp]], x7, rfl, hnd, hDD, rv A (by decide), ?_, hm.grown hg6.out hgW⟩
   ·exact ⟨(Fv.out _ (Fs.out _ FN)).1.bx.cell 0, (Fv.out _ (Fs.out _ FN)).1.bx.cell 1⟩
   ·exact ⟨FN, Ag, mg, cg, ls, co, Ap, np, cp, pr, rfl, rfl, hco, World.ownsRow.kept hO hg6.out (zm fun b e => by have := (World.ownsRow.lt hO b e).1; omega), hO6.out.mono hle, hL, hL6.out.1, hL6.out.2⟩
  ·simp at hC
 ·exact fun C D i a w0 hi h => wpOp_mono (fun a1 w1 h1 => ⟨fun _ => (by obtain ⟨vs1, _, _, _, _, _, hf1, _⟩ := h1; exact ⟨(Fv.out _ (Fs.out _ (GsF.base hf1))).1.bx.cell 0, (Fv.out _ (Fs.out _ (GsF.base hf1))).1.bx.cell 1⟩), h1⟩) (oX.alloc (fun vs w2 o h => GsF.alloc o h) rfl rfl rfl (fun ρ w2 => by go_simp; rfl) i hi h)
 ·intro a w0 h
  obtain ⟨vs, x7, hC, -, -, rfl, hf, hm⟩ := h
  rcases vs with _ | ⟨v1, _ | ⟨v2, _ | ⟨v3, _⟩⟩⟩
  ·simp at hC
  ·simp at hC
  rotate_left
  ·exact hf.elim
  clear hC
  obtain ⟨hB, Ag, mg, cg, ls, co, Ap, np, cp, pr, rfl, rfl, hco, hO, hO2, hL, hp1, hp2⟩ := hf
  have h7 := (hm.m7 rfl).1
  have hx7 := (hm.m7 rfl).2
  have HX := iD (jx.of hB h7 hx7 hgW hO hO2 co)
  have HH7 := iD h7
  have HX7 := iD hx7
  have HLM := iD hL
  have HPR := iD hp2
  have HPN := iD hp1
  clear hm hO hO2 h7 hx7 hL hp1 hp2
  show wpOrd _ _ _ _ _ _ (zi A [(6, ptr x7), (37, .agg #[.int .i64 co, .slice Ag mg cg, .slice Ap np cp]), (36, .slice Ag mg cg), (35, .slice As nd cs), (34, .agg #[.slice An nn cn, .slice Ad nd cd]), (33, .pointer (some ⟨w.heap.size, 0, none⟩)), (32, .agg #[.slice An nn cn, .slice Ad nd cd]), (31, .pointer (some ⟨w.heap.size, 0, none⟩))]) _
  refine me (i := 8) (w' := ?_) rfl rfl (zA rfl) (fun ρ AB => ?_) (fun _ => ?_) ?_
  rotate_left
  ·(have e6 := tm AB hsz 6 rfl zB; have e37 := tm AB hsz 37 rfl (zD rfl zB); refine (qZ ρ _ _ _ _ x7 co Ag Ap mg cg np cp ?_ e6 e37 HH7.out); rfl)
  ·exact ⟨(Fv.out _ (Fs.out _ HX.out.b)).1.bx.cell 0, (Fv.out _ (Fs.out _ HX.out.b)).1.bx.cell 1⟩
  refine ye hn2 ?_
  clear hn2 b3 b4 b5 hsz A Q2
  simp only [yd, yJ, xJ, vD, vE, ptr]
  have hX := HX.out
  unfold set3 at hX
  clear HX HH7 hB
  generalize World.setCell _ _ _ = WS at *
  have hge7 : w5.heap.size ≤ x7 := HX7.out
  obtain ⟨M3, hM3⟩ : ∃ M3 : World → Prop, M3 = fun W' => (LwN w nb An nn cn ns Ad nd cd ds W' ∧ SlX W' w.heap.size 1 As nd cs (zK s)) ∧ Blk W' x7 29 #[.int .i64 co, .slice Ag mg cg, .slice Ap np cp] ∧ SlX W' w.heap.size 3 Ag mg cg (ls.flatMap Lk.cells) ∧ SlX W' w.heap.size 1 Ap np cp (zK pr) := ⟨_, rfl⟩
  have HK3 : Hid (ww w.heap.size M3) := by unfold Hid; rw [hM3]; exact ((ww.lwn HL.out).and ww.slx).and ((ww.blk (by omega)).and (ww.slx.and ww.slx))
  have Fj : Hid (∀ W', M3 W' → (LwN w nb An nn cn ns Ad nd cd ds W' ∧ SlX W' w.heap.size 1 As nd cs (zK s)) ∧ Blk W' x7 29 #[.int .i64 co, .slice Ag mg cg, .slice Ap np cp] ∧ SlX W' w.heap.size 3 Ag mg cg (ls.flatMap Lk.cells) ∧ SlX W' w.heap.size 1 Ap np cp (zK pr)) := fun W' h => by rw [hM3] at h; exact h
  have HMS : Hid (M3 WS) := by unfold Hid; rw [hM3]; exact ⟨Fv.out _ (Fs.out _ hX.b), hX.b7, SlX.of_own hX.hl hgW, SlX.of_own hX.hp hgW⟩
  have HZ : Hid (∀ W', M3 W' → yp W' An Ad As Ag Ap nn cn nd cd nd cs mg cg np cp ns ds s ls pr) := fun W' h => ⟨(Fj.out _ h).1.1.hn.1, (Fj.out _ h).1.1.hd.1, (Fj.out _ h).1.2.1, (Fj.out _ h).2.2.1.1, (Fj.out _ h).2.2.2.1, (Fj.out _ h).1.1.la, HNM.out.1, HNM.out.2⟩
  have HSE : Hid (zL ns ds s = 0) := rT HCK.out (by rw [HLS.out, HND.out]) hpos.out
  have HOK := iD (wL.of HCK.out)
  have HPR2 : Hid (yi ns.length (-1) pr = true) := by unfold Hid; rw [FJ.out]; exact HPR.out
  clear hM3 Fs Fv HKM FE HDW hX M HPR HPN hge7 HX7
  have hnn1 : 2 ≤ nn := by have := HMA.out.n2; rw [FJ.out] at this; omega
  go_upto_region 7 with (fail)
  have k0 := (Fj.out _ HMS.out).1.1.bx.c0
  have k1 := (Fj.out _ HMS.out).1.1.bx.c1
  go_wp2_with fail
  clear k0 k1
  refine (nB w.heap.size An Ad nn cn nd cd WS (Fj.out _ HMS.out).1.1.dk (by omega) (by omega) (by omega) (by omega)).mono ?_
  rintro e w8 ⟨k, d, no, p, q, rfl, hsp, hd8, hg8⟩
  have HM8 := iD (HK3.out.grown HMS.out hg8.out hd8.out)
  have HSP : Hid (zc ns.length ds.length ⟨k, d, no, p, q⟩ = 0) := by unfold Hid; rw [FJ.out, HND.out]; exact hsp.out
  clear hsp hd8 hg8 HMS
  go_upto_region 8 with (fail)
  have Fx := iD (HK3.out.later HM8.out ((Below.refl _ w8).alloc lR (.cells #[.int .i64 k, .int .i64 d, .int .i64 no, .int .i64 p, .int .i64 q] 31)))
  have FI := iD (Blk.new w8 31 #[.int .i64 k, .int .i64 d, .int .i64 no, .int .i64 p, .int .i64 q])
  clear HM8
  generalize World.alloc w8 _ = w9 at *
  obtain ⟨x9, hx9⟩ : ∃ x, x = w8.heap.size := ⟨_, rfl⟩
  rw [← hx9] at FI ⊢
  clear hx9
  have HSM : Hid (yw ns ds s co ls pr ⟨#[80]⟩ [⟨k, d, no, p, q⟩] = 0) := kj HSE.out HCK.out hco HLM.out.1 HPR2.out HSP.out
  have HST := iD (kS An Ad As Ag Ap nn cn nd cd nd cs mg cg np cp ns ds s ls pr co k d no p q w9 (HZ.out _ Fx.out))
  have k0 := (Fj.out _ Fx.out).1.1.bx.c0
  have k1 := (Fj.out _ Fx.out).1.1.bx.c1
  have g0 := (Fj.out _ Fx.out).2.1.c0
  have g1 := (Fj.out _ Fx.out).2.1.c1
  have g2 := (Fj.out _ Fx.out).2.1.c2
  have s0 := FI.out.cell 0
  have s1 := FI.out.cell 1
  have s2 := FI.out.cell 2
  have s3 := FI.out.cell 3
  have s4 := FI.out.cell 4
  go_wp2_with fail
  clear k0 k1 g0 g1 g2 s0 s1 s2 s3 s4
  refine HST.out.mono ?_
  rintro e wa ⟨⟨h1, -⟩ | ⟨-, A1, A2, B3, B4, n1, c1, n2, c2, m3, e3, m4, e4, rfl, hS⟩, hba⟩
  ·exact absurd HSM.out h1
  obtain ⟨so, hso⟩ : ∃ so, so = zf ns ds co ⟨s, ls, pr⟩ ⟨k, d, no, p, q⟩ := ⟨_, rfl⟩
  rw [← hso] at hS ⊢
  have FB := iD hso
  clear hso HST
  have HMB : Hid (Below w9.heap.size w9 (wa.alloc (.cells #[.int .i64 co, .slice B3 m3 e3, .slice B4 m4 e4] 29))) := hba.out.alloc hba.out.size _
  have FE : Hid (MvM w nb x7 x9 wa.heap.size An Ad As Ag Ap A1 A2 B3 B4 nn cn nd cd cs mg cg np cp n1 c1 n2 c2 m3 e3 m4 e4 ns ds s ls pr co #[.int .i64 k, .int .i64 d, .int .i64 no, .int .i64 p, .int .i64 q] so (wa.alloc (.cells #[.int .i64 co, .slice B3 m3 e3, .slice B4 m4 e4] 29))) :=
   ⟨(HZ.out _ Fx.out).below HMB.out, (Fj.out _ Fx.out).1.1.bx.below HMB.out (Fj.out _ Fx.out).1.1.bx.lt, (Fj.out _ Fx.out).2.1.below HMB.out (Fj.out _ Fx.out).2.1.lt, FI.out.below HMB.out FI.out.lt, Blk.new _ _ _, hS.out.later ((Below.refl _ wa).alloc lR _), (Fj.out _ Fx.out).1.1.bl.trans (HMB.out.mono (Fj.out _ Fx.out).1.1.bl.size)⟩
  clear hS hba HMB Fx FI
  go_upto_region 9 with (fail)
  generalize World.alloc wa _ = V at *
  obtain ⟨x10, hx10⟩ : ∃ x, x = wa.heap.size := ⟨_, rfl⟩
  rw [← hx10] at FE ⊢
  clear hx10
  have HN2 : Hid (n2 = nd) := by
   have h1 := FE.out.a.s.iL
   have h2 := mS ns ds co ⟨s, ls, pr⟩ ⟨k, d, no, p, q⟩
   rw [← FB.out] at h2
   have h3 := HLS.out; unfold Hid; dsimp only at h2; omega
  obtain rfl : n2 = nd := HN2.out
  go_upto_region 12 with (fail)
  refine yk [(1, 0), (0, 1), (9, 0), (1, 1), (47, 0), (0, 2), (41, 1), (192, 0)] 63 (n2) (HrQ (MvM w nb x7 x9 x10 An Ad As Ag Ap A1 A2 B3 B4 nn cn n2 cd cs mg cg np cp n1 c1 n2 c2 m3 e3 m4 e4 ns ds s ls pr co #[.int .i64 k, .int .i64 d, .int .i64 no, .int .i64 p, .int .i64 q] so) n2) (by (try dsimp only [gt]); exact ⟨0, rfl, Nat.zero_le _, rfl, FE⟩) (by kernel_rfl) ?_
  intro u1 p63 gk wr a hrel ha J1 K1 hJ1 hK1
  dsimp only [zj, Go.Proofs.YtddddlhgaeameaaGreatDoor.v1, Nat.reduceAdd] at ha
  subst ha
  clear FE
  obtain ⟨i, rfl, hi, rfl, HM⟩ := hrel
  by_cases hlt : i < n2; rotate_left
  ·have hii : decide ((i : Int) < (n2 : Int)) = false := by simp; omega
   have hii2 : decide (i < n2) = false := by simp; omega
   go_upto_region 18 with (fail)
   clear hii hii2
   have k0 := HM.out.bn.c0
   have k1 := HM.out.bn.c1
   go_wp2_with fail
   clear k0 k1
   refine (wS An Ad As nn cn n2 cd n2 cs wr.heap.size wr.heap.size wr.heap.size ns ds s wr HM.out.z.hn HM.out.z.hd HM.out.z.hs lR lR lR HM.out.z.sn HM.out.z.sd (by omega) (fun _ => ⟨Nat.le_refl _, by have := HOK.out.e; rwa [FJ.out] at this, HOK.out.ne⟩) (fun _ => ⟨by have := HOK.out.a; rwa [FJ.out] at this, HOK.out.k⟩)).mono ?_
   rintro e wc ⟨hbc, ⟨h1, -⟩ | ⟨-, C, cl, rfl, hOC, hIC⟩⟩
   ·exact absurd HSE.out h1
   have Fa := iD (HM.out.later hbc.out)
   have HCO := iD hOC.out.sl
   have HIC := iD hIC.out
   clear hbc hOC hIC HM
   have HS6 := iD (xR HSP.out)
   have hk6 : k = 1 ∨ k = 2 ∨ k = 3 ∨ k = 4 ∨ k = 5 ∨ k = 6 := by have := HS6.out.1; dsimp only at this; omega
   rcases hk6 with rfl | rfl | rfl | rfl | rfl | rfl
   ·have hd0 := HS6.out.2.1 (show (1 : Int) ≠ 5 by decide)
    dsimp only at hd0
    have HIE : Hid (xf ns ds s d 1 co = 0) := by unfold Hid xf yo; rw [if_pos HSE.out, if_neg (by omega), if_neg (by omega), if_neg (by omega), if_neg (by omega), if_neg (by omega)]
    have hse := FB.out
    rw [uo _ _ _ _ _ _ _ _ (by decide)] at hse
    subst hse
    dsimp only
    have k0 := Fa.out.bn.c0
    have k1 := Fa.out.bn.c1
    have g0 := Fa.out.bg.c0
    have g1 := Fa.out.bg.c1
    have g2 := Fa.out.bg.c2
    have s0 := Fa.out.bs.c0
    have s1 := Fa.out.bs.c1
    go_wp2_with fail
    clear k0 k1 g0 g1 g2 s0 s1
    refine (nj An Ad As Ag Ap nn cn n2 cd n2 cs mg cg np cp ns ds s ls pr d 1 co wc Fa.out.z).mono ?_
    rintro e wi ⟨⟨h1, -⟩ | ⟨-, Ai, ki, ci, x, hx, rfl, hOI⟩, hbi⟩
    ·exact absurd HIE.out h1
    have FL := iD (Fa.out.later hbi.out)
    have HII := iD hOI.out.sl
    have HHZ : Hid (decide (uc ns.length ns ds s d.toNat 1 co ls pr x = hzD ns ds s d 1 co ls pr) = true) := by unfold Hid hzD; rw [hx]; simp
    clear hx hOI hbi Fa HIE
    go_wp2_with fail
    refine (xT Ai A1 ki ci n1 c1 wi.heap.size wi.heap.size _ _ wi HII.out FL.out.a.h lR lR).mono ?_
    rintro e wj ⟨rfl, hbj⟩
    rw [HHZ.out]
    have FC := iD (FL.out.later hbj)
    clear hbj FL HII HHZ
    have y1 := FC.out.by'.c1
    have g1 := FC.out.bg.c1
    go_wp2_with fail
    clear y1 g1
    refine (vF B3 Ag m3 e3 mg cg wj.heap.size wj.heap.size _ _ wj FC.out.a.l FC.out.z.hl lR lR).mono ?_
    rintro e wk ⟨rfl, hbk⟩
    rw [tD]
    have Ff := iD (FC.out.later hbk)
    clear hbk FC
    go_wp2_with fail
    refine (yL wk Ff.out.z.la).mono ?_
    rintro e wz ⟨rfl, hbz⟩
    go_wp2_with fail
    go_ret
    exact ⟨rfl, Ff.out.bl.trans (hbz.mono Ff.out.bl.size)⟩
   ·have hd0 := HS6.out.2.1 (show (2 : Int) ≠ 5 by decide)
    dsimp only at hd0
    have HIE : Hid (xf ns ds s d 2 co = 0) := by unfold Hid xf yo; rw [if_pos HSE.out, if_neg (by omega), if_neg (by omega), if_neg (by omega), if_neg (by omega), if_neg (by omega)]
    have hse := FB.out
    rw [uo _ _ _ _ _ _ _ _ (by decide)] at hse
    subst hse
    dsimp only
    have k0 := Fa.out.bn.c0
    have k1 := Fa.out.bn.c1
    have g0 := Fa.out.bg.c0
    have g1 := Fa.out.bg.c1
    have g2 := Fa.out.bg.c2
    have s0 := Fa.out.bs.c0
    have s1 := Fa.out.bs.c1
    go_wp2_with fail
    clear k0 k1 g0 g1 g2 s0 s1
    refine (nj An Ad As Ag Ap nn cn n2 cd n2 cs mg cg np cp ns ds s ls pr d 2 co wc Fa.out.z).mono ?_
    rintro e wi ⟨⟨h1, -⟩ | ⟨-, Ai, ki, ci, x, hx, rfl, hOI⟩, hbi⟩
    ·exact absurd HIE.out h1
    have FL := iD (Fa.out.later hbi.out)
    have HII := iD hOI.out.sl
    have HHZ : Hid (decide (uc ns.length ns ds s d.toNat 2 co ls pr x = hzD ns ds s d 2 co ls pr) = true) := by unfold Hid hzD; rw [hx]; simp
    clear hx hOI hbi Fa HIE
    go_wp2_with fail
    refine (xT Ai A1 ki ci n1 c1 wi.heap.size wi.heap.size _ _ wi HII.out FL.out.a.h lR lR).mono ?_
    rintro e wj ⟨rfl, hbj⟩
    rw [HHZ.out]
    have FC := iD (FL.out.later hbj)
    clear hbj FL HII HHZ
    have y1 := FC.out.by'.c1
    have g1 := FC.out.bg.c1
    go_wp2_with fail
    clear y1 g1
    refine (vF B3 Ag m3 e3 mg cg wj.heap.size wj.heap.size _ _ wj FC.out.a.l FC.out.z.hl lR lR).mono ?_
    rintro e wk ⟨rfl, hbk⟩
    rw [tD]
    have Ff := iD (FC.out.later hbk)
    clear hbk FC
    go_wp2_with fail
    refine (yL wk Ff.out.z.la).mono ?_
    rintro e wz ⟨rfl, hbz⟩
    go_wp2_with fail
    go_ret
    exact ⟨rfl, Ff.out.bl.trans (hbz.mono Ff.out.bl.size)⟩
   ·have FH : Hid (ls.length = mg) := Fa.out.z.hl.len (fun _ => rfl) (by decide)
    have hmg : mg ≤ 1000 := by have := HLM.out.2.1; have := FH.out; omega
    have hd0 := HS6.out.2.1 (show (3 : Int) ≠ 5 by decide)
    dsimp only at hd0
    obtain ⟨i, rfl⟩ := Int.eq_ofNat_of_zero_le hd0.1
    have hi : i < n2 := by have := HND.out; omega
    obtain ⟨bs, os, sv, rfl, hbs, hsv, hcs⟩ := Fa.out.z.hs.at1 hi
    have HSV : Hid (s.getD (i : Int).toNat 0 = sv) := by unfold Hid; rw [Int.toNat_natCast, List.getD_eq_getElem?_getD, hsv]; rfl
    have Fu := iD hcs
    clear hcs hsv hbs HCO HIC
    by_cases hpq : sv = p; rotate_left
    ·have q1 : (sv == p) = false := by simpa using hpq
     have hse := FB.out
     rw [rk] at hse
     dsimp only at hse
     rw [HSV.out, if_pos hpq] at hse
     subst hse
     dsimp only
     have Fe : Hid (n1 = 1) := by
      have h := Fa.out.a.h.iL
      unfold Hid; simp at h; omega
     obtain rfl : n1 = 1 := Fe.out
     clear Fe
     have Fg : Hid (m3 = mg) := by
      have h := Fa.out.a.l.len (fun _ => rfl) (by decide)
      have h2 := FH.out
      unfold Hid; dsimp only at h; omega
     have hwr : IntKind.i64.wrap ((mg : Int) + 1) = (mg : Int) + 1 := IntWalk.i64_in _ (by omega)
     have q2 : decide ((m3 : Int) ≤ IntKind.i64.wrap ((mg : Int) + 1)) = true := by have := Fg.out; rw [hwr]; simp; omega
     have q2n : decide (m3 ≤ mg + 1) = true := by have := Fg.out; simp; omega
     have q3 : ((m3 : Int) == IntKind.i64.wrap ((mg : Int) + 1)) = false := by have := Fg.out; rw [hwr]; simp; omega
     have q3n : ((m3 : Int) == (mg : Int) + 1) = false := by have := Fg.out; simp; omega
     clear hpq Fg hwr
     have s0 := Fa.out.bs.c0
     go_upto_region 30 with (fail)
     clear s0
     refine zF (S := fun W' => MvM w nb x7 x9 x10 An Ad (some ⟨bs, os, none⟩) Ag Ap A1 A2 B3 B4 nn cn n2 cd cs mg cg np cp 1 c1 n2 c2 m3 e3 m4 e4 ns ds s ls pr co #[.int .i64 3, .int .i64 (i : Int), .int .i64 no, .int .i64 p, .int .i64 q] ⟨[8], ⟨s, ls, pr⟩, false⟩ W' ∧ W'.cell? ⟨bs, os + i, none⟩ = some (.int .i64 sv)) (J := []) (by kernel_rfl) ?_ (fun AA => ?_)
     ·exact ⟨Fa.out.later (Below.refl _ _).drew, Fu.out⟩
     try dsimp only at AA
     refine qqK 0 218 (mf 45 1) AA ?_
     refine qqK 1 219 (mf 45 2) AA ?_
     refine qqK 2 220 (mf 45 3) AA ?_
     refine qqX 3 221 ?_ (mf 45 4) ?_ AA ?_
     rotate_left
     ·(intro w hSw; (try dsimp only at hSw); have u0 := hSw.1.bs.cell 1; go_simp; try with_reducible rfl)
     refine qqK 4 222 (mf 45 5) AA ?_
     refine qqX 5 223 ?_ (mf 45 6) ?_ AA ?_
     rotate_left
     ·(intro w hSw; (try dsimp only at hSw); have u0 := hSw.2; go_simp; try with_reducible rfl)
     refine qqK 6 224 (mf 45 7) AA ?_
     refine qqX 7 225 ?_ (mf 45 8) ?_ AA ?_
     rotate_left
     ·(intro w hSw; (try dsimp only at hSw); have u0 := hSw.1.bs.cell 3; go_simp; try with_reducible rfl)
     refine qqK 8 226 (mf 45 9) AA ?_
     refine qqK 9 227 (mf 45 10) AA ?_
     refine qqK 10 228 (mf 45 11) AA ?_
     refine qqK 11 229 (mf 45 12) AA ?_
     refine qqX 12 230 ?_ (mf 45 13) ?_ AA ?_
     rotate_left
     ·(intro w hSw; (try dsimp only at hSw); have u0 := hSw.1.by'.cell 1; go_simp; try with_reducible rfl)
     refine qqK 13 231 (mf 45 14) AA ?_
     refine qqK 14 232 (mf 45 15) AA ?_
     refine qqX 15 233 ?_ (mf 45 16) ?_ AA ?_
     rotate_left
     ·(intro w hSw; (try dsimp only at hSw); have u0 := hSw.1.bg.cell 1; go_simp; try with_reducible rfl)
     refine qqK 16 234 (mf 45 17) AA ?_
     refine qqK 17 235 (mf 45 18) AA ?_
     refine qqK 18 236 (mf 45 19) AA ?_
     refine qqK 19 237 (mf 45 20) AA ?_
     refine qqK 20 238 (mf 45 21) AA ?_
     refine qqK 21 239 (mf 45 22) AA ?_
     refine qqK 22 240 (mf 45 23) AA ?_
     refine qqK 23 241 (mf 45 24) AA ?_
     refine qqK 24 242 (mf 45 25) AA ?_
     refine qqX 25 243 ?_ (mf 45 26) ?_ AA ?_
     rotate_left
     ·(intro w hSw; (try dsimp only at hSw); have u0 := hSw.1.by'.cell 1; go_simp; try with_reducible rfl)
     refine qqK 26 244 (mf 45 27) AA ?_
     refine qqK 27 245 (mf 45 28) AA ?_
     refine qqX 28 246 ?_ (mf 45 29) ?_ AA ?_
     rotate_left
     ·(intro w hSw; (try dsimp only at hSw); have u0 := hSw.1.bg.cell 1; go_simp; try with_reducible rfl)
     refine qqK 29 247 (mf 45 30) AA ?_
     refine qqK 30 248 (mf 45 31) AA ?_
     refine qqK 31 249 (mf 45 32) AA ?_
     refine qqK 32 250 (mf 45 33) AA ?_
     refine qqK 33 251 (mf 45 34) AA ?_
     refine qqK 34 252 (mf 45 35) AA ?_
     refine qqK 35 253 (mf 45 36) AA ?_
     refine qqX 36 254 ?_ (mf 45 37) ?_ AA ?_
     rotate_left
     ·(intro w hSw; (try dsimp only at hSw); have u0 := hSw.1.by'.cell 2; go_simp; try with_reducible rfl)
     refine qqK 37 255 (mf 45 38) AA ?_
     refine qqX 38 256 ?_ (mf 45 39) ?_ AA ?_
     rotate_left
     ·(intro w hSw; (try dsimp only at hSw); have u0 := hSw.1.bg.cell 2; go_simp; try with_reducible rfl)
     refine tb 39 (mf 45 40) fun K hK => ?_
     (go_simp; refine (xT B4 Ap m4 e4 np cp _ _ pr pr _ AA.1.a.p AA.1.z.hp lR lR).mono ?_; rintro e wy ⟨rfl, hby⟩; rw [show decide (pr = pr) = true from decide_eq_true rfl]; have Fz := iD hby; clear hby; go_simp)
     refine hK.out _ _ (fun _ => ?_) (fun AA' => ?_)
     ·exact ⟨AA.1.later Fz.out, zG Fz.out AA.2⟩
     replace AA := AA' rfl
     clear AA' hK K
     try dsimp only at AA
     refine qqK 40 258 (mf 45 41) AA ?_
     refine qqK 41 259 (mf 45 42) AA ?_
     refine tb 42 (mf 45 43) fun K hK => ?_
     (go_simp; refine (yL wy AA.1.z.la).mono ?_; rintro e wz ⟨rfl, hbz⟩; have Fy := iD hbz; clear hbz; go_simp)
     refine hK.out _ _ (fun _ => ?_) (fun AA' => ?_)
     ·exact ⟨AA.1.later Fy.out, zG Fy.out AA.2⟩
     replace AA := AA' rfl
     clear AA' hK K
     try dsimp only at AA
     refine qqK 43 261 (mf 45 44) AA ?_
     refine qqK 44 2 (mf 45 45) AA ?_
     refine zC (by kernel_rfl) ?_ _
     go_wp2_with fail
     go_ret
     exact ⟨rfl, AA.1.bl⟩
    by_cases hadd : zg ns ds ls ⟨i, p, q⟩ ≠ 0
    ·have q1 : (sv == p) = true := by simpa using hpq
     have hse := FB.out
     rw [rk] at hse
     dsimp only at hse
     rw [HSV.out, if_neg (by simp [hpq]), jj, if_pos hadd] at hse
     replace hse : so = ⟨[4], ⟨s, ls, pr⟩, true⟩ := hse
     subst hse
     dsimp only
     have Fe : Hid (n1 = 1) := by
      have h := Fa.out.a.h.iL
      unfold Hid; simp at h; omega
     obtain rfl : n1 = 1 := Fe.out
     clear Fe
     have Fg : Hid (m3 = mg) := by
      have h := Fa.out.a.l.len (fun _ => rfl) (by decide)
      have h2 := FH.out
      unfold Hid; dsimp only at h; omega
     have hwr : IntKind.i64.wrap ((mg : Int) + 1) = (mg : Int) + 1 := IntWalk.i64_in _ (by omega)
     have q2 : decide ((m3 : Int) ≤ IntKind.i64.wrap ((mg : Int) + 1)) = true := by have := Fg.out; rw [hwr]; simp; omega
     have q2n : decide (m3 ≤ mg + 1) = true := by have := Fg.out; simp; omega
     have q3 : ((m3 : Int) == IntKind.i64.wrap ((mg : Int) + 1)) = false := by have := Fg.out; rw [hwr]; simp; omega
     have q3n : ((m3 : Int) == (mg : Int) + 1) = false := by have := Fg.out; simp; omega
     clear hpq Fg hwr hadd
     have s0 := Fa.out.bs.c0
     go_upto_region 30 with (fail)
     clear s0
     refine zF (S := fun W' => MvM w nb x7 x9 x10 An Ad (some ⟨bs, os, none⟩) Ag Ap A1 A2 B3 B4 nn cn n2 cd cs mg cg np cp 1 c1 n2 c2 m3 e3 m4 e4 ns ds s ls pr co #[.int .i64 3, .int .i64 (i : Int), .int .i64 no, .int .i64 p, .int .i64 q] ⟨[4], ⟨s, ls, pr⟩, true⟩ W' ∧ W'.cell? ⟨bs, os + i, none⟩ = some (.int .i64 sv)) (J := []) (by kernel_rfl) ?_ (fun AA => ?_)
     ·exact ⟨Fa.out.later (Below.refl _ _).drew, Fu.out⟩
     try dsimp only at AA
     refine qqK 0 218 (mf 45 1) AA ?_
     refine qqK 1 219 (mf 45 2) AA ?_
     refine qqK 2 220 (mf 45 3) AA ?_
     refine qqX 3 221 ?_ (mf 45 4) ?_ AA ?_
     rotate_left
     ·(intro w hSw; (try dsimp only at hSw); have u0 := hSw.1.bs.cell 1; go_simp; try with_reducible rfl)
     refine qqK 4 222 (mf 45 5) AA ?_
     refine qqX 5 223 ?_ (mf 45 6) ?_ AA ?_
     rotate_left
     ·(intro w hSw; (try dsimp only at hSw); have u0 := hSw.2; go_simp; try with_reducible rfl)
     refine qqK 6 224 (mf 45 7) AA ?_
     refine qqX 7 225 ?_ (mf 45 8) ?_ AA ?_
     rotate_left
     ·(intro w hSw; (try dsimp only at hSw); have u0 := hSw.1.bs.cell 3; go_simp; try with_reducible rfl)
     refine qqK 8 226 (mf 45 9) AA ?_
     refine qqK 9 227 (mf 45 10) AA ?_
     refine qqK 10 228 (mf 45 11) AA ?_
     refine qqK 11 229 (mf 45 12) AA ?_
     refine qqX 12 230 ?_ (mf 45 13) ?_ AA ?_
     rotate_left
     ·(intro w hSw; (try dsimp only at hSw); have u0 := hSw.1.by'.cell 1; go_simp; try with_reducible rfl)
     refine qqK 13 231 (mf 45 14) AA ?_
     refine qqK 14 232 (mf 45 15) AA ?_
     refine qqX 15 233 ?_ (mf 45 16) ?_ AA ?_
     rotate_left
     ·(intro w hSw; (try dsimp only at hSw); have u0 := hSw.1.bg.cell 1; go_simp; try with_reducible rfl)
     refine qqK 16 234 (mf 45 17) AA ?_
     refine qqK 17 235 (mf 45 18) AA ?_
     refine qqK 18 236 (mf 45 19) AA ?_
     refine qqK 19 237 (mf 45 20) AA ?_
     refine qqK 20 238 (mf 45 21) AA ?_
     refine qqK 21 239 (mf 45 22) AA ?_
     refine qqK 22 240 (mf 45 23) AA ?_
     refine qqK 23 241 (mf 45 24) AA ?_
     refine qqK 24 242 (mf 45 25) AA ?_
     refine qqX 25 243 ?_ (mf 45 26) ?_ AA ?_
     rotate_left
     ·(intro w hSw; (try dsimp only at hSw); have u0 := hSw.1.by'.cell 1; go_simp; try with_reducible rfl)
     refine qqK 26 244 (mf 45 27) AA ?_
     refine qqK 27 245 (mf 45 28) AA ?_
     refine qqX 28 246 ?_ (mf 45 29) ?_ AA ?_
     rotate_left
     ·(intro w hSw; (try dsimp only at hSw); have u0 := hSw.1.bg.cell 1; go_simp; try with_reducible rfl)
     refine qqK 29 247 (mf 45 30) AA ?_
     refine qqK 30 248 (mf 45 31) AA ?_
     refine qqK 31 249 (mf 45 32) AA ?_
     refine qqK 32 250 (mf 45 33) AA ?_
     refine qqK 33 251 (mf 45 34) AA ?_
     refine qqK 34 252 (mf 45 35) AA ?_
     refine qqK 35 253 (mf 45 36) AA ?_
     refine qqX 36 254 ?_ (mf 45 37) ?_ AA ?_
     rotate_left
     ·(intro w hSw; (try dsimp only at hSw); have u0 := hSw.1.by'.cell 2; go_simp; try with_reducible rfl)
     refine qqK 37 255 (mf 45 38) AA ?_
     refine qqX 38 256 ?_ (mf 45 39) ?_ AA ?_
     rotate_left
     ·(intro w hSw; (try dsimp only at hSw); have u0 := hSw.1.bg.cell 2; go_simp; try with_reducible rfl)
     refine tb 39 (mf 45 40) fun K hK => ?_
     (go_simp; refine (xT B4 Ap m4 e4 np cp _ _ pr pr _ AA.1.a.p AA.1.z.hp lR lR).mono ?_; rintro e wy ⟨rfl, hby⟩; rw [show decide (pr = pr) = true from decide_eq_true rfl]; have Fz := iD hby; clear hby; go_simp)
     refine hK.out _ _ (fun _ => ?_) (fun AA' => ?_)
     ·exact ⟨AA.1.later Fz.out, zG Fz.out AA.2⟩
     replace AA := AA' rfl
     clear AA' hK K
     try dsimp only at AA
     refine qqK 40 258 (mf 45 41) AA ?_
     refine qqK 41 259 (mf 45 42) AA ?_
     refine tb 42 (mf 45 43) fun K hK => ?_
     (go_simp; refine (yL wy AA.1.z.la).mono ?_; rintro e wz ⟨rfl, hbz⟩; have Fy := iD hbz; clear hbz; go_simp)
     refine hK.out _ _ (fun _ => ?_) (fun AA' => ?_)
     ·exact ⟨AA.1.later Fy.out, zG Fy.out AA.2⟩
     replace AA := AA' rfl
     clear AA' hK K
     try dsimp only at AA
     refine qqK 43 261 (mf 45 44) AA ?_
     refine qqK 44 2 (mf 45 45) AA ?_
     refine zC (by kernel_rfl) ?_ _
     go_wp2_with fail
     go_ret
     exact ⟨rfl, AA.1.bl⟩
    have q1 : (sv == p) = true := by simpa using hpq
    have hse := FB.out
    rw [rk] at hse
    dsimp only at hse
    rw [HSV.out, if_neg (by simp [hpq]), jj, if_neg hadd] at hse
    replace hse : so = ⟨[], ⟨s, xw ⟨i, p, q⟩ ls, pr⟩, true⟩ := hse
    subst hse
    dsimp only
    have Fe : Hid (n1 = 0) := by
     have h := Fa.out.a.h.iL
     unfold Hid; simp at h; omega
    obtain rfl : n1 = 0 := Fe.out
    clear Fe
    have Fg : Hid (m3 = mg + 1) := by
     have h := Fa.out.a.l.len (fun _ => rfl) (by decide)
     have h2 := FH.out
     unfold Hid; dsimp only at h; rw [xe] at h; omega
    have hwr : IntKind.i64.wrap ((mg : Int) + 1) = (mg : Int) + 1 := IntWalk.i64_in _ (by omega)
    have q2 : decide ((m3 : Int) ≤ IntKind.i64.wrap ((mg : Int) + 1)) = true := by have := Fg.out; rw [hwr]; simp; omega
    have q2n : decide (m3 ≤ mg + 1) = true := by have := Fg.out; simp; omega
    have q3 : ((m3 : Int) == IntKind.i64.wrap ((mg : Int) + 1)) = true := by have := Fg.out; rw [hwr]; simp; omega
    have q3n : ((m3 : Int) == (mg : Int) + 1) = true := by have := Fg.out; simp; omega
    clear hpq Fg hwr hadd
    have s0 := Fa.out.bs.c0
    go_upto_region 30 with (fail)
    clear s0
    refine zF (S := fun W' => MvM w nb x7 x9 x10 An Ad (some ⟨bs, os, none⟩) Ag Ap A1 A2 B3 B4 nn cn n2 cd cs mg cg np cp 0 c1 n2 c2 m3 e3 m4 e4 ns ds s ls pr co #[.int .i64 3, .int .i64 (i : Int), .int .i64 no, .int .i64 p, .int .i64 q] ⟨[], ⟨s, xw ⟨i, p, q⟩ ls, pr⟩, true⟩ W' ∧ W'.cell? ⟨bs, os + i, none⟩ = some (.int .i64 sv)) (J := []) (by kernel_rfl) ?_ (fun AA => ?_)
    ·exact ⟨Fa.out.later (Below.refl _ _).drew, Fu.out⟩
    try dsimp only at AA
    refine qqK 0 218 (mf 45 1) AA ?_
    refine qqK 1 219 (mf 45 2) AA ?_
    refine qqK 2 220 (mf 45 3) AA ?_
    refine qqX 3 221 ?_ (mf 45 4) ?_ AA ?_
    rotate_left
    ·(intro w hSw; (try dsimp only at hSw); have u0 := hSw.1.bs.cell 1; go_simp; try with_reducible rfl)
    refine qqK 4 222 (mf 45 5) AA ?_
    refine qqX 5 223 ?_ (mf 45 6) ?_ AA ?_
    rotate_left
    ·(intro w hSw; (try dsimp only at hSw); have u0 := hSw.2; go_simp; try with_reducible rfl)
    refine qqK 6 224 (mf 45 7) AA ?_
    refine qqX 7 225 ?_ (mf 45 8) ?_ AA ?_
    rotate_left
    ·(intro w hSw; (try dsimp only at hSw); have u0 := hSw.1.bs.cell 3; go_simp; try with_reducible rfl)
    refine qqK 8 226 (mf 45 9) AA ?_
    refine qqK 9 227 (mf 45 10) AA ?_
    refine qqK 10 228 (mf 45 11) AA ?_
    refine qqK 11 229 (mf 45 12) AA ?_
    refine qqX 12 230 ?_ (mf 45 13) ?_ AA ?_
    rotate_left
    ·(intro w hSw; (try dsimp only at hSw); have u0 := hSw.1.by'.cell 1; go_simp; try with_reducible rfl)
    refine qqK 13 231 (mf 45 14) AA ?_
    refine qqK 14 232 (mf 45 15) AA ?_
    refine qqX 15 233 ?_ (mf 45 16) ?_ AA ?_
    rotate_left
    ·(intro w hSw; (try dsimp only at hSw); have u0 := hSw.1.bg.cell 1; go_simp; try with_reducible rfl)
    refine qqK 16 234 (mf 45 17) AA ?_
    refine qqK 17 235 (mf 45 18) AA ?_
    refine qqK 18 236 (mf 45 19) AA ?_
    refine qqK 19 237 (mf 45 20) AA ?_
    refine qqK 20 238 (mf 45 21) AA ?_
    refine qqK 21 239 (mf 45 22) AA ?_
    refine qqK 22 240 (mf 45 23) AA ?_
    refine qqK 23 241 (mf 45 24) AA ?_
    refine qqK 24 242 (mf 45 25) AA ?_
    refine qqX 25 243 ?_ (mf 45 26) ?_ AA ?_
    rotate_left
    ·(intro w hSw; (try dsimp only at hSw); have u0 := hSw.1.by'.cell 1; go_simp; try with_reducible rfl)
    refine qqK 26 244 (mf 45 27) AA ?_
    refine qqK 27 245 (mf 45 28) AA ?_
    refine qqX 28 246 ?_ (mf 45 29) ?_ AA ?_
    rotate_left
    ·(intro w hSw; (try dsimp only at hSw); have u0 := hSw.1.bg.cell 1; go_simp; try with_reducible rfl)
    refine qqK 29 247 (mf 45 30) AA ?_
    refine qqK 30 248 (mf 45 31) AA ?_
    refine qqK 31 249 (mf 45 32) AA ?_
    refine qqK 32 250 (mf 45 33) AA ?_
    refine qqK 33 251 (mf 45 34) AA ?_
    refine qqK 34 252 (mf 45 35) AA ?_
    refine qqK 35 253 (mf 45 36) AA ?_
    refine qqX 36 254 ?_ (mf 45 37) ?_ AA ?_
    rotate_left
    ·(intro w hSw; (try dsimp only at hSw); have u0 := hSw.1.by'.cell 2; go_simp; try with_reducible rfl)
    refine qqK 37 255 (mf 45 38) AA ?_
    refine qqX 38 256 ?_ (mf 45 39) ?_ AA ?_
    rotate_left
    ·(intro w hSw; (try dsimp only at hSw); have u0 := hSw.1.bg.cell 2; go_simp; try with_reducible rfl)
    refine tb 39 (mf 45 40) fun K hK => ?_
    (go_simp; refine (xT B4 Ap m4 e4 np cp _ _ pr pr _ AA.1.a.p AA.1.z.hp lR lR).mono ?_; rintro e wy ⟨rfl, hby⟩; rw [show decide (pr = pr) = true from decide_eq_true rfl]; have Fz := iD hby; clear hby; go_simp)
    refine hK.out _ _ (fun _ => ?_) (fun AA' => ?_)
    ·exact ⟨AA.1.later Fz.out, zG Fz.out AA.2⟩
    replace AA := AA' rfl
    clear AA' hK K
    try dsimp only at AA
    refine qqK 40 258 (mf 45 41) AA ?_
    refine qqK 41 259 (mf 45 42) AA ?_
    refine tb 42 (mf 45 43) fun K hK => ?_
    (go_simp; refine (yL wy AA.1.z.la).mono ?_; rintro e wz ⟨rfl, hbz⟩; have Fy := iD hbz; clear hbz; go_simp)
    refine hK.out _ _ (fun _ => ?_) (fun AA' => ?_)
    ·exact ⟨AA.1.later Fy.out, zG Fy.out AA.2⟩
    replace AA := AA' rfl
    clear AA' hK K
    try dsimp only at AA
    refine qqK 43 261 (mf 45 44) AA ?_
    refine qqK 44 2 (mf 45 45) AA ?_
    refine zC (by kernel_rfl) ?_ _
    go_wp2_with fail
    go_ret
    exact ⟨rfl, AA.1.bl⟩
   ·have FH : Hid (ls.length = mg) := Fa.out.z.hl.len (fun _ => rfl) (by decide)
    have hmg : mg ≤ 1000 := by have := HLM.out.2.1; have := FH.out; omega
    have HPG : Hid (yN ns ds ⟨#[80]⟩ [] = 0) := by
     unfold Hid yN; rw [if_neg (by simp [HCK.out]), if_neg (by decide), if_neg (by simp)]; rfl
    rcases hidx : vT d q ls with _ | j
    ·have hse := FB.out
     rw [nh, ji, hidx] at hse
     replace hse : so = ⟨[4], ⟨s, ls, pr⟩, true⟩ := hse
     subst hse
     dsimp only
     have Fe : Hid (n1 = 1) := by
      have h := Fa.out.a.h.iL
      unfold Hid; simp at h; omega
     obtain rfl : n1 = 1 := Fe.out
     clear Fe
     have Fg : Hid (m3 = mg) := by
      have h := Fa.out.a.l.len (fun _ => rfl) (by decide)
      have h2 := FH.out
      unfold Hid; dsimp only at h; omega
     have q1 : ((m3 : Int) == (mg : Int) - 1) = false := by have := Fg.out; simp; omega
     clear hidx Fg
     have y1 := Fa.out.by'.c1
     have g1 := Fa.out.bg.c1
     have y2 := Fa.out.by'.c2
     have g2 := Fa.out.bg.c2
     have s0 := Fa.out.bs.c0
     go_wp2_with fail
     clear y1 g1 y2 g2 s0 q1
     refine (xT B4 Ap m4 e4 np cp wc.heap.size wc.heap.size pr pr wc Fa.out.a.p Fa.out.z.hp lR lR).mono ?_
     rintro e wd ⟨rfl, hbd⟩
     rw [show decide (pr = pr) = true from decide_eq_true rfl]
     have Fb := iD (Fa.out.later hbd)
     clear hbd Fa
     have k0 := Fb.out.bn.c0
     have k1 := Fb.out.bn.c1
     go_wp2_with fail
     clear k0 k1
     refine (wU An Ad A2 nn cn n2 cd n2 c2 wd.heap.size wd.heap.size wd.heap.size ns ds s wd Fb.out.z.hn Fb.out.z.hd Fb.out.a.s lR lR lR Fb.out.z.sn Fb.out.z.sd).mono ?_
     rintro e we ⟨rfl, hbe⟩
     rw [HSE.out]
     have Fq := iD (Fb.out.later hbe)
     clear hbe Fb
     have k0 := Fq.out.bn.c0
     have k1 := Fq.out.bn.c1
     go_wp2_with fail
     clear k0 k1
     refine (uw An Ad none nn cn n2 cd 0 0 ns ds ⟨#[80]⟩ [] we ⟨Fq.out.z.hn, Fq.out.z.hd, Sl.nil _ _ _, Fq.out.z.la, Fq.out.z.sn, Fq.out.z.sd, by decide⟩).mono ?_
     rintro e wf ⟨rfl, hbf⟩
     rw [HPG.out]
     have FM := iD (Fq.out.later hbf)
     clear hbf Fq
     go_wp2_with fail
     refine (yL wf FM.out.z.la).mono ?_
     rintro e wz ⟨rfl, hbz⟩
     go_wp2_with fail
     go_ret
     exact ⟨rfl, FM.out.bl.trans (hbz.mono FM.out.bl.size)⟩
    ·have hse := FB.out
     rw [nh, ji, hidx] at hse
     replace hse : so = ⟨[], ⟨s, ls.eraseIdx j, pr⟩, true⟩ := hse
     subst hse
     dsimp only
     have Fe : Hid (n1 = 0) := by
      have h := Fa.out.a.h.iL
      unfold Hid; simp at h; omega
     obtain rfl : n1 = 0 := Fe.out
     clear Fe
     have hj := qz hidx
     have Fg : Hid (m3 = mg - 1) := by
      have h := Fa.out.a.l.len (fun _ => rfl) (by decide)
      have h2 := FH.out
      unfold Hid; dsimp only at h; rw [List.length_eraseIdx_of_lt hj] at h; omega
     have q1 : ((m3 : Int) == (mg : Int) - 1) = true := by have := Fg.out; have := FH.out; simp; omega
     clear hj
     clear hidx Fg
     have y1 := Fa.out.by'.c1
     have g1 := Fa.out.bg.c1
     have y2 := Fa.out.by'.c2
     have g2 := Fa.out.bg.c2
     have s0 := Fa.out.bs.c0
     go_wp2_with fail
     clear y1 g1 y2 g2 s0 q1
     refine (xT B4 Ap m4 e4 np cp wc.heap.size wc.heap.size pr pr wc Fa.out.a.p Fa.out.z.hp lR lR).mono ?_
     rintro e wd ⟨rfl, hbd⟩
     rw [show decide (pr = pr) = true from decide_eq_true rfl]
     have Fb := iD (Fa.out.later hbd)
     clear hbd Fa
     have k0 := Fb.out.bn.c0
     have k1 := Fb.out.bn.c1
     go_wp2_with fail
     clear k0 k1
     refine (wU An Ad A2 nn cn n2 cd n2 c2 wd.heap.size wd.heap.size wd.heap.size ns ds s wd Fb.out.z.hn Fb.out.z.hd Fb.out.a.s lR lR lR Fb.out.z.sn Fb.out.z.sd).mono ?_
     rintro e we ⟨rfl, hbe⟩
     rw [HSE.out]
     have Fq := iD (Fb.out.later hbe)
     clear hbe Fb
     have k0 := Fq.out.bn.c0
     have k1 := Fq.out.bn.c1
     go_wp2_with fail
     clear k0 k1
     refine (uw An Ad none nn cn n2 cd 0 0 ns ds ⟨#[80]⟩ [] we ⟨Fq.out.z.hn, Fq.out.z.hd, Sl.nil _ _ _, Fq.out.z.la, Fq.out.z.sn, Fq.out.z.sd, by decide⟩).mono ?_
     rintro e wf ⟨rfl, hbf⟩
     rw [HPG.out]
     have FM := iD (Fq.out.later hbf)
     clear hbf Fq
     go_wp2_with fail
     refine (yL wf FM.out.z.la).mono ?_
     rintro e wz ⟨rfl, hbz⟩
     go_wp2_with fail
     go_ret
     exact ⟨rfl, FM.out.bl.trans (hbz.mono FM.out.bl.size)⟩
   ·have hn0 := HS6.out.2.2.1 rfl
    dsimp only at hn0
    obtain ⟨v, rfl⟩ := Int.eq_ofNat_of_zero_le hn0.1
    have hv : v < nn := by have := FJ.out; omega
    obtain ⟨cb, co', cv, rfl, hcb, hcv0, hcv⟩ := HCO.out.at1 hv
    have HCV : Hid (lvB (zY ns.length ds s) v = yn cv) := by unfold Hid lvB; rw [FJ.out, xL HIC.out, List.getD_eq_getElem?_getD]; simp [hcv0]
    clear hcb hcv0 HCO HIC
    rcases hlv : yn cv with _ | _
    ·have q1 : (bits .and .i64 cv 1 != 0) = false := hlv
     have hse := FB.out
     rw [pO, HCV.out, hlv] at hse
     replace hse : so = ⟨[], ⟨s, ls, xn pr v⟩, true⟩ := hse
     subst hse
     dsimp only
     have Fe : Hid (n1 = 0) := by
      have h := Fa.out.a.h.iL
      unfold Hid; simp at h; omega
     obtain rfl : n1 = 0 := Fe.out
     clear Fe
     clear HCV hlv
     have s0 := Fa.out.bs.c0
     have s2 := Fa.out.bs.c2
     go_upto_region 26 with (fail)
     clear q1 hcv s0 s2
     have y2 := Fa.out.by'.c2
     have s2 := Fa.out.bs.c2
     go_wp2_with fail
     clear y2 s2
     refine (vl B4 m4 e4 _ v wc Fa.out.a.p).mono ?_
     rintro e wd ⟨rfl, hwd⟩
     have Fb := iD (Fa.out.later (show Below wc.heap.size wc wd by rw [← hwd]; exact Below.refl _ _))
     clear hwd Fa
     rw [show decide ((v : Int) ∈ xn pr v) = true from decide_eq_true (lZ pr v)]
     have y1 := Fb.out.by'.c1
     have g1 := Fb.out.bg.c1
     go_wp2_with fail
     clear y1 g1
     refine (vF B3 Ag m3 e3 mg cg wd.heap.size wd.heap.size _ _ wd Fb.out.a.l Fb.out.z.hl lR lR).mono ?_
     rintro e wk ⟨rfl, hbk⟩
     rw [tD]
     have Ff := iD (Fb.out.later hbk)
     clear hbk Fb
     go_wp2_with fail
     refine (yL wk Ff.out.z.la).mono ?_
     rintro e wz ⟨rfl, hbz⟩
     go_wp2_with fail
     go_ret
     exact ⟨rfl, Ff.out.bl.trans (hbz.mono Ff.out.bl.size)⟩
    ·have q1 : (bits .and .i64 cv 1 != 0) = true := hlv
     have hse := FB.out
     rw [pO, HCV.out, hlv] at hse
     replace hse : so = ⟨[8], ⟨s, ls, pr⟩, true⟩ := hse
     subst hse
     dsimp only
     have Fe : Hid (n1 = 1) := by
      have h := Fa.out.a.h.iL
      unfold Hid; simp at h; omega
     obtain rfl : n1 = 1 := Fe.out
     clear Fe
     clear HCV hlv
     have s0 := Fa.out.bs.c0
     have s2 := Fa.out.bs.c2
     go_upto_region 26 with (fail)
     clear q1 hcv s0 s2
     have y2 := Fa.out.by'.c2
     have s2 := Fa.out.bs.c2
     go_wp2_with fail
     clear y2 s2
     refine (vl B4 m4 e4 _ v wc Fa.out.a.p).mono ?_
     rintro e wd ⟨rfl, hwd⟩
     have Fb := iD (Fa.out.later (show Below wc.heap.size wc wd by rw [← hwd]; exact Below.refl _ _))
     clear hwd Fa
     dsimp only
     have g2 := Fb.out.bg.c2
     have s2 := Fb.out.bs.c2
     obtain ⟨bb, hbb⟩ : ∃ b, b = decide ((v : Int) ∈ pr) := ⟨_, rfl⟩
     rw [← hbb]
     have HBB := iD hbb
     clear hbb
     go_wp2_with fail
     clear g2 s2
     refine (vl Ap np cp pr v wd Fb.out.z.hp).mono ?_
     rintro e wd2 ⟨rfl, hwd⟩
     have Fh := iD (Fb.out.later (show Below wd.heap.size wd wd2 by rw [← hwd]; exact Below.refl _ _))
     clear hwd Fb
     rw [← HBB.out]
     clear HBB
     have y1 := Fh.out.by'.c1
     have g1 := Fh.out.bg.c1
     rcases bb with _ | _
     ·go_wp2_with fail
      clear y1 g1
      refine (vF B3 Ag m3 e3 mg cg wd2.heap.size wd2.heap.size _ _ wd2 Fh.out.a.l Fh.out.z.hl lR lR).mono ?_
      rintro e wk ⟨rfl, hbk⟩
      rw [tD]
      have Ff := iD (Fh.out.later hbk)
      clear hbk Fh
      go_wp2_with fail
      refine (yL wk Ff.out.z.la).mono ?_
      rintro e wz ⟨rfl, hbz⟩
      go_wp2_with fail
      go_ret
      exact ⟨rfl, Ff.out.bl.trans (hbz.mono Ff.out.bl.size)⟩
     ·go_wp2_with fail
      clear y1 g1
      refine (vF B3 Ag m3 e3 mg cg wd2.heap.size wd2.heap.size _ _ wd2 Fh.out.a.l Fh.out.z.hl lR lR).mono ?_
      rintro e wk ⟨rfl, hbk⟩
      rw [tD]
      have Ff := iD (Fh.out.later hbk)
      clear hbk Fh
      go_wp2_with fail
      refine (yL wk Ff.out.z.la).mono ?_
      rintro e wz ⟨rfl, hbz⟩
      go_wp2_with fail
      go_ret
      exact ⟨rfl, Ff.out.bl.trans (hbz.mono Ff.out.bl.size)⟩
   ·have hd0 := HS6.out.2.1 (show (6 : Int) ≠ 5 by decide)
    dsimp only at hd0
    obtain ⟨i, rfl⟩ := Int.eq_ofNat_of_zero_le hd0.1
    have hi : i < n2 := by have := HND.out; omega
    obtain ⟨bs, os, sv, rfl, hbs, hsv, hcs⟩ := Fa.out.z.hs.at1 hi
    have HSV : Hid (s.getD (i : Int).toNat 0 = sv) := by unfold Hid; rw [Int.toNat_natCast, List.getD_eq_getElem?_getD, hsv]; rfl
    have Fu := iD hcs
    clear hcs hsv hbs HCO HIC
    by_cases hpq : sv = p; rotate_left
    ·have q1 : (sv == p) = false := by simpa using hpq
     have hse := FB.out
     rw [ng] at hse
     dsimp only at hse
     rw [HSV.out, if_pos hpq] at hse
     subst hse
     dsimp only
     have Fe : Hid (n1 = 1) := by
      have h := Fa.out.a.h.iL
      unfold Hid; simp at h; omega
     obtain rfl : n1 = 1 := Fe.out
     clear Fe
     clear hpq
     have s0 := Fa.out.bs.c0
     go_upto_region 28 with (fail)
     clear s0
     refine zF (S := fun W' => MvM w nb x7 x9 x10 An Ad (some ⟨bs, os, none⟩) Ag Ap A1 A2 B3 B4 nn cn n2 cd cs mg cg np cp 1 c1 n2 c2 m3 e3 m4 e4 ns ds s ls pr co #[.int .i64 6, .int .i64 (i : Int), .int .i64 no, .int .i64 p, .int .i64 q] ⟨[8], ⟨s, ls, pr⟩, false⟩ W' ∧ W'.cell? ⟨bs, os + i, none⟩ = some (.int .i64 sv)) (J := []) (by kernel_rfl) ?_ (fun AA => ?_)
     ·exact ⟨Fa.out.later (Below.refl _ _).drew, Fu.out⟩
     try dsimp only at AA
     refine qqK 0 191 (mf 26 1) AA ?_
     refine qqK 1 192 (mf 26 2) AA ?_
     refine qqK 2 193 (mf 26 3) AA ?_
     refine qqX 3 194 ?_ (mf 26 4) ?_ AA ?_
     rotate_left
     ·(intro w hSw; (try dsimp only at hSw); have u0 := hSw.1.bs.cell 1; go_simp; try with_reducible rfl)
     refine qqK 4 195 (mf 26 5) AA ?_
     refine qqX 5 196 ?_ (mf 26 6) ?_ AA ?_
     rotate_left
     ·(intro w hSw; (try dsimp only at hSw); have u0 := hSw.2; go_simp; try with_reducible rfl)
     refine qqK 6 197 (mf 26 7) AA ?_
     refine qqX 7 198 ?_ (mf 26 8) ?_ AA ?_
     rotate_left
     ·(intro w hSw; (try dsimp only at hSw); have u0 := hSw.1.bs.cell 3; go_simp; try with_reducible rfl)
     refine qqK 8 199 (mf 26 9) AA ?_
     refine qqK 9 200 (mf 26 10) AA ?_
     refine qqK 10 201 (mf 26 11) AA ?_
     refine qqK 11 202 (mf 26 12) AA ?_
     refine qqK 12 203 (mf 26 13) AA ?_
     refine qqK 13 204 (mf 26 14) AA ?_
     refine qqK 14 205 (mf 26 15) AA ?_
     refine qqK 15 206 (mf 26 16) AA ?_
     refine qqK 16 207 (mf 26 17) AA ?_
     refine qqK 17 208 (mf 26 18) AA ?_
     refine qqX 18 209 ?_ (mf 26 19) ?_ AA ?_
     rotate_left
     ·(intro w hSw; (try dsimp only at hSw); have u0 := hSw.1.by'.cell 0; have u1 := hSw.1.by'.cell 1; have u2 := hSw.1.by'.cell 2; go_simp; try with_reducible rfl)
     refine qqX 19 210 ?_ (mf 26 20) ?_ AA ?_
     rotate_left
     ·(intro w hSw; (try dsimp only at hSw); have u0 := hSw.1.bg.cell 0; have u1 := hSw.1.bg.cell 1; have u2 := hSw.1.bg.cell 2; go_simp; try with_reducible rfl)
     refine tb 20 (mf 26 21) fun K hK => ?_
     (go_simp; refine (rm B3 B4 Ag Ap m3 e3 m4 e4 mg cg np cp co co ls ls pr pr _ AA.1.a.l AA.1.a.p AA.1.z.hl AA.1.z.hp).mono ?_; rintro e wy ⟨rfl, hby⟩; rw [ni]; have Fz := iD hby; clear hby; go_simp)
     refine hK.out _ _ (fun _ => ?_) (fun AA' => ?_)
     ·exact ⟨AA.1.later Fz.out, zG Fz.out AA.2⟩
     replace AA := AA' rfl
     clear AA' hK K
     try dsimp only at AA
     refine qqK 21 212 (mf 26 22) AA ?_
     refine qqK 22 213 (mf 26 23) AA ?_
     refine tb 23 (mf 26 24) fun K hK => ?_
     (go_simp; refine (yL wy AA.1.z.la).mono ?_; rintro e wz ⟨rfl, hbz⟩; have Fy := iD hbz; clear hbz; go_simp)
     refine hK.out _ _ (fun _ => ?_) (fun AA' => ?_)
     ·exact ⟨AA.1.later Fy.out, zG Fy.out AA.2⟩
     replace AA := AA' rfl
     clear AA' hK K
     try dsimp only at AA
     refine qqK 24 215 (mf 26 25) AA ?_
     refine qqK 25 2 (mf 26 26) AA ?_
     refine zC (by kernel_rfl) ?_ _
     go_wp2_with fail
     go_ret
     exact ⟨rfl, AA.1.bl⟩
    have q1 : (sv == p) = true := by simpa using hpq
    have hse := FB.out
    rw [ng] at hse
    dsimp only at hse
    rw [HSV.out, if_neg (by simp [hpq])] at hse
    subst hse
    dsimp only
    have Fe : Hid (n1 = 0) := by
     have h := Fa.out.a.h.iL
     unfold Hid; simp at h; omega
    obtain rfl : n1 = 0 := Fe.out
    clear Fe
    clear hpq
    have s0 := Fa.out.bs.c0
    go_upto_region 28 with (fail)
    clear s0
    refine zF (S := fun W' => MvM w nb x7 x9 x10 An Ad (some ⟨bs, os, none⟩) Ag Ap A1 A2 B3 B4 nn cn n2 cd cs mg cg np cp 0 c1 n2 c2 m3 e3 m4 e4 ns ds s ls pr co #[.int .i64 6, .int .i64 (i : Int), .int .i64 no, .int .i64 p, .int .i64 q] ⟨[], ⟨s, ls, pr⟩, true⟩ W' ∧ W'.cell? ⟨bs, os + i, none⟩ = some (.int .i64 sv)) (J := []) (by kernel_rfl) ?_ (fun AA => ?_)
    ·exact ⟨Fa.out.later (Below.refl _ _).drew, Fu.out⟩
    try dsimp only at AA
    refine qqK 0 191 (mf 26 1) AA ?_
    refine qqK 1 192 (mf 26 2) AA ?_
    refine qqK 2 193 (mf 26 3) AA ?_
    refine qqX 3 194 ?_ (mf 26 4) ?_ AA ?_
    rotate_left
    ·(intro w hSw; (try dsimp only at hSw); have u0 := hSw.1.bs.cell 1; go_simp; try with_reducible rfl)
    refine qqK 4 195 (mf 26 5) AA ?_
    refine qqX 5 196 ?_ (mf 26 6) ?_ AA ?_
    rotate_left
    ·(intro w hSw; (try dsimp only at hSw); have u0 := hSw.2; go_simp; try with_reducible rfl)
    refine qqK 6 197 (mf 26 7) AA ?_
    refine qqX 7 198 ?_ (mf 26 8) ?_ AA ?_
    rotate_left
    ·(intro w hSw; (try dsimp only at hSw); have u0 := hSw.1.bs.cell 3; go_simp; try with_reducible rfl)
    refine qqK 8 199 (mf 26 9) AA ?_
    refine qqK 9 200 (mf 26 10) AA ?_
    refine qqK 10 201 (mf 26 11) AA ?_
    refine qqK 11 202 (mf 26 12) AA ?_
    refine qqK 12 203 (mf 26 13) AA ?_
    refine qqK 13 204 (mf 26 14) AA ?_
    refine qqK 14 205 (mf 26 15) AA ?_
    refine qqK 15 206 (mf 26 16) AA ?_
    refine qqK 16 207 (mf 26 17) AA ?_
    refine qqK 17 208 (mf 26 18) AA ?_
    refine qqX 18 209 ?_ (mf 26 19) ?_ AA ?_
    rotate_left
    ·(intro w hSw; (try dsimp only at hSw); have u0 := hSw.1.by'.cell 0; have u1 := hSw.1.by'.cell 1; have u2 := hSw.1.by'.cell 2; go_simp; try with_reducible rfl)
    refine qqX 19 210 ?_ (mf 26 20) ?_ AA ?_
    rotate_left
    ·(intro w hSw; (try dsimp only at hSw); have u0 := hSw.1.bg.cell 0; have u1 := hSw.1.bg.cell 1; have u2 := hSw.1.bg.cell 2; go_simp; try with_reducible rfl)
    refine tb 20 (mf 26 21) fun K hK => ?_
    (go_simp; refine (rm B3 B4 Ag Ap m3 e3 m4 e4 mg cg np cp co co ls ls pr pr _ AA.1.a.l AA.1.a.p AA.1.z.hl AA.1.z.hp).mono ?_; rintro e wy ⟨rfl, hby⟩; rw [ni]; have Fz := iD hby; clear hby; go_simp)
    refine hK.out _ _ (fun _ => ?_) (fun AA' => ?_)
    ·exact ⟨AA.1.later Fz.out, zG Fz.out AA.2⟩
    replace AA := AA' rfl
    clear AA' hK K
    try dsimp only at AA
    refine qqK 21 212 (mf 26 22) AA ?_
    refine qqK 22 213 (mf 26 23) AA ?_
    refine tb 23 (mf 26 24) fun K hK => ?_
    (go_simp; refine (yL wy AA.1.z.la).mono ?_; rintro e wz ⟨rfl, hbz⟩; have Fy := iD hbz; clear hbz; go_simp)
    refine hK.out _ _ (fun _ => ?_) (fun AA' => ?_)
    ·exact ⟨AA.1.later Fy.out, zG Fy.out AA.2⟩
    replace AA := AA' rfl
    clear AA' hK K
    try dsimp only at AA
    refine qqK 24 215 (mf 26 25) AA ?_
    refine qqK 25 2 (mf 26 26) AA ?_
    refine zC (by kernel_rfl) ?_ _
    go_wp2_with fail
    go_ret
    exact ⟨rfl, AA.1.bl⟩
  obtain ⟨b1, o1, sv, hA1, hb1, hs1, hc1⟩ := HM.out.z.hs.at1 hlt
  obtain ⟨b2, o2, xv, hA2, hb2, hs2, hc2⟩ := HM.out.a.s.at1 hlt
  have FD : Hid (xv = if (k = 1 ∨ k = 2) ∧ (i : Int) = d then k else sv) := iE (t := ⟨s, ls, pr⟩) hs1 (by rw [← FB.out]; exact hs2) (fun h => by have := (xR HSP.out).2.1; dsimp only at this; exact (this (by omega)).1)
  have Fu : Hid ((wr.cell? ⟨b1, o1 + i, none⟩ = some (.int .i64 sv) ∧ wr.cell? ⟨b2, o2 + i, none⟩ = some (.int .i64 xv)) ∧ wr.cell? ⟨x9, 0, none⟩ = some (.int .i64 k)) := ⟨⟨hc1, hc2⟩, HM.out.bs.cell 0⟩
  have Fs := iD (HM.out.later (Below.refl _ wr).drew)
  have s0 := HM.out.bs.c0
  have s1 := HM.out.bs.c1
  clear hc1 hc2 hs1 hs2 hb1 hb2 HM
  by_cases hka : k = 1
  ·by_cases hid : (i : Int) = d
   ·have Fw : Hid (xv = k) := by unfold Hid; rw [FD.out, if_pos (by omega)]
    rw [Fw.out] at Fu
    clear Fw FD
    have q0 : (k == 1) = true := by simpa using hka
    have q1 : ((i : Int) == d) = true := by simpa using hid
    clear hka hid
    go_upto_region 15 with (fail)
    clear s0 s1 q0 q1
    subst hA1 hA2
    refine zF (S := fun W' => (W'.cell? ⟨b1, o1 + i, none⟩ = some (.int .i64 sv) ∧ W'.cell? ⟨b2, o2 + i, none⟩ = some (.int .i64 k)) ∧ W'.cell? ⟨x9, 0, none⟩ = some (.int .i64 k)) (J := []) (by kernel_rfl) ?_ (fun AA => ?_)
    ·exact Fu.out
    try dsimp only at AA
    refine qqK 0 80 (mf 25 1) AA ?_
    refine qqK 1 81 (mf 25 2) AA ?_
    refine qqK 2 82 (mf 25 3) AA ?_
    refine ts 3 83 (mf 25 4) AA ?_
    refine ts 4 84 (mf 25 5) AA ?_
    refine ts 5 85 (mf 25 6) AA ?_
    refine ts 6 86 (mf 25 7) AA ?_
    refine ts 7 87 (mf 25 8) AA ?_
    refine ts 8 88 (mf 25 9) AA ?_
    refine ts 9 89 (mf 25 10) AA ?_
    refine ts 10 90 (mf 25 11) AA ?_
    refine ts 11 91 (mf 25 12) AA ?_
    refine qqK 12 92 (mf 25 13) AA ?_
    refine qqK 13 93 (mf 25 14) AA ?_
    refine qqK 14 94 (mf 25 15) AA ?_
    refine qqK 15 95 (mf 25 16) AA ?_
    refine qqK 16 96 (mf 25 17) AA ?_
    refine qqK 17 97 (mf 25 18) AA ?_
    refine qqK 18 98 (mf 25 19) AA ?_
    refine qqX 19 99 ?_ (mf 25 20) ?_ AA ?_
    rotate_left
    ·(intro w hSw; (try dsimp only at hSw); have u0 := hSw.1.2; go_simp; try with_reducible rfl)
    refine qqK 20 100 (mf 25 21) AA ?_
    refine qqX 21 101 ?_ (mf 25 22) ?_ AA ?_
    rotate_left
    ·(intro w hSw; (try dsimp only at hSw); have u0 := hSw.2; go_simp; try with_reducible rfl)
    refine qqK 22 102 (mf 25 23) AA ?_
    refine qqK 23 103 (mf 25 24) AA ?_
    refine qqK 24 104 (mf 25 25) AA ?_
    refine zC (by kernel_rfl) ?_ _
    clear AA
    go_wp2_with fail
    refine Handed.intro (n2 - (i + 1)) (by omega) (hJ1 _ _ _ (xX.back 63 ?_ (by kernel_rfl)))
    dsimp only [gt]
    exact ⟨i + 1, by go_num, by omega, rfl, Fs⟩
   ·have Fw : Hid (xv = sv) := by unfold Hid; rw [FD.out, if_neg (by omega)]
    rw [Fw.out] at Fu
    clear Fw FD
    have q0 : (k == 1) = true := by simpa using hka
    have q1 : ((i : Int) == d) = false := by simpa using hid
    clear hka hid
    go_upto_region 15 with (fail)
    clear s0 s1 q0 q1
    subst hA1 hA2
    refine zF (S := fun W' => (W'.cell? ⟨b1, o1 + i, none⟩ = some (.int .i64 sv) ∧ W'.cell? ⟨b2, o2 + i, none⟩ = some (.int .i64 sv)) ∧ W'.cell? ⟨x9, 0, none⟩ = some (.int .i64 k)) (J := []) (by kernel_rfl) ?_ (fun AA => ?_)
    ·exact Fu.out
    try dsimp only at AA
    refine qqK 0 80 (mf 25 1) AA ?_
    refine qqK 1 81 (mf 25 2) AA ?_
    refine qqK 2 82 (mf 25 3) AA ?_
    refine qqK 3 83 (mf 25 4) AA ?_
    refine qqK 4 84 (mf 25 5) AA ?_
    refine qqK 5 85 (mf 25 6) AA ?_
    refine qqX 6 86 ?_ (mf 25 7) ?_ AA ?_
    rotate_left
    ·(intro w hSw; (try dsimp only at hSw); have u0 := hSw.1.2; go_simp; try with_reducible rfl)
    refine qqK 7 87 (mf 25 8) AA ?_
    refine qqK 8 88 (mf 25 9) AA ?_
    refine qqK 9 89 (mf 25 10) AA ?_
    refine qqX 10 90 ?_ (mf 25 11) ?_ AA ?_
    rotate_left
    ·(intro w hSw; (try dsimp only at hSw); have u0 := hSw.1.1; go_simp; try with_reducible rfl)
    refine qqK 11 91 (mf 25 12) AA ?_
    refine qqK 12 92 (mf 25 13) AA ?_
    refine qqK 13 93 (mf 25 14) AA ?_
    refine qqK 14 94 (mf 25 15) AA ?_
    refine qqK 15 95 (mf 25 16) AA ?_
    refine ts 16 96 (mf 25 17) AA ?_
    refine ts 17 97 (mf 25 18) AA ?_
    refine ts 18 98 (mf 25 19) AA ?_
    refine ts 19 99 (mf 25 20) AA ?_
    refine ts 20 100 (mf 25 21) AA ?_
    refine ts 21 101 (mf 25 22) AA ?_
    refine ts 22 102 (mf 25 23) AA ?_
    refine qqK 23 103 (mf 25 24) AA ?_
    refine qqK 24 104 (mf 25 25) AA ?_
    refine zC (by kernel_rfl) ?_ _
    clear AA
    go_wp2_with fail
    refine Handed.intro (n2 - (i + 1)) (by omega) (hJ1 _ _ _ (xX.back 63 ?_ (by kernel_rfl)))
    dsimp only [gt]
    exact ⟨i + 1, by go_num, by omega, rfl, Fs⟩
  by_cases hkb : k = 2
  ·by_cases hid : (i : Int) = d
   ·have Fw : Hid (xv = k) := by unfold Hid; rw [FD.out, if_pos (by omega)]
    rw [Fw.out] at Fu
    clear Fw FD
    have q0 : (k == 1) = false := by simpa using hka
    have q1 : (k == 2) = true := by simpa using hkb
    have q2 : ((i : Int) == d) = true := by simpa using hid
    clear hka hkb hid
    go_upto_region 15 with (fail)
    clear s0 s1 q0 q1 q2
    subst hA1 hA2
    refine zF (S := fun W' => (W'.cell? ⟨b1, o1 + i, none⟩ = some (.int .i64 sv) ∧ W'.cell? ⟨b2, o2 + i, none⟩ = some (.int .i64 k)) ∧ W'.cell? ⟨x9, 0, none⟩ = some (.int .i64 k)) (J := []) (by kernel_rfl) ?_ (fun AA => ?_)
    ·exact Fu.out
    try dsimp only at AA
    refine qqK 0 80 (mf 25 1) AA ?_
    refine qqK 1 81 (mf 25 2) AA ?_
    refine qqK 2 82 (mf 25 3) AA ?_
    refine ts 3 83 (mf 25 4) AA ?_
    refine ts 4 84 (mf 25 5) AA ?_
    refine ts 5 85 (mf 25 6) AA ?_
    refine ts 6 86 (mf 25 7) AA ?_
    refine ts 7 87 (mf 25 8) AA ?_
    refine ts 8 88 (mf 25 9) AA ?_
    refine ts 9 89 (mf 25 10) AA ?_
    refine ts 10 90 (mf 25 11) AA ?_
    refine ts 11 91 (mf 25 12) AA ?_
    refine qqK 12 92 (mf 25 13) AA ?_
    refine qqK 13 93 (mf 25 14) AA ?_
    refine qqK 14 94 (mf 25 15) AA ?_
    refine qqK 15 95 (mf 25 16) AA ?_
    refine qqK 16 96 (mf 25 17) AA ?_
    refine qqK 17 97 (mf 25 18) AA ?_
    refine qqK 18 98 (mf 25 19) AA ?_
    refine qqX 19 99 ?_ (mf 25 20) ?_ AA ?_
    rotate_left
    ·(intro w hSw; (try dsimp only at hSw); have u0 := hSw.1.2; go_simp; try with_reducible rfl)
    refine qqK 20 100 (mf 25 21) AA ?_
    refine qqX 21 101 ?_ (mf 25 22) ?_ AA ?_
    rotate_left
    ·(intro w hSw; (try dsimp only at hSw); have u0 := hSw.2; go_simp; try with_reducible rfl)
    refine qqK 22 102 (mf 25 23) AA ?_
    refine qqK 23 103 (mf 25 24) AA ?_
    refine qqK 24 104 (mf 25 25) AA ?_
    refine zC (by kernel_rfl) ?_ _
    clear AA
    go_wp2_with fail
    refine Handed.intro (n2 - (i + 1)) (by omega) (hJ1 _ _ _ (xX.back 63 ?_ (by kernel_rfl)))
    dsimp only [gt]
    exact ⟨i + 1, by go_num, by omega, rfl, Fs⟩
   ·have Fw : Hid (xv = sv) := by unfold Hid; rw [FD.out, if_neg (by omega)]
    rw [Fw.out] at Fu
    clear Fw FD
    have q0 : (k == 1) = false := by simpa using hka
    have q1 : (k == 2) = true := by simpa using hkb
    have q2 : ((i : Int) == d) = false := by simpa using hid
    clear hka hkb hid
    go_upto_region 15 with (fail)
    clear s0 s1 q0 q1 q2
    subst hA1 hA2
    refine zF (S := fun W' => (W'.cell? ⟨b1, o1 + i, none⟩ = some (.int .i64 sv) ∧ W'.cell? ⟨b2, o2 + i, none⟩ = some (.int .i64 sv)) ∧ W'.cell? ⟨x9, 0, none⟩ = some (.int .i64 k)) (J := []) (by kernel_rfl) ?_ (fun AA => ?_)
    ·exact Fu.out
    try dsimp only at AA
    refine qqK 0 80 (mf 25 1) AA ?_
    refine qqK 1 81 (mf 25 2) AA ?_
    refine qqK 2 82 (mf 25 3) AA ?_
    refine qqK 3 83 (mf 25 4) AA ?_
    refine qqK 4 84 (mf 25 5) AA ?_
    refine qqK 5 85 (mf 25 6) AA ?_
    refine qqX 6 86 ?_ (mf 25 7) ?_ AA ?_
    rotate_left
    ·(intro w hSw; (try dsimp only at hSw); have u0 := hSw.1.2; go_simp; try with_reducible rfl)
    refine qqK 7 87 (mf 25 8) AA ?_
    refine qqK 8 88 (mf 25 9) AA ?_
    refine qqK 9 89 (mf 25 10) AA ?_
    refine qqX 10 90 ?_ (mf 25 11) ?_ AA ?_
    rotate_left
    ·(intro w hSw; (try dsimp only at hSw); have u0 := hSw.1.1; go_simp; try with_reducible rfl)
    refine qqK 11 91 (mf 25 12) AA ?_
    refine qqK 12 92 (mf 25 13) AA ?_
    refine qqK 13 93 (mf 25 14) AA ?_
    refine qqK 14 94 (mf 25 15) AA ?_
    refine qqK 15 95 (mf 25 16) AA ?_
    refine ts 16 96 (mf 25 17) AA ?_
    refine ts 17 97 (mf 25 18) AA ?_
    refine ts 18 98 (mf 25 19) AA ?_
    refine ts 19 99 (mf 25 20) AA ?_
    refine ts 20 100 (mf 25 21) AA ?_
    refine ts 21 101 (mf 25 22) AA ?_
    refine ts 22 102 (mf 25 23) AA ?_
    refine qqK 23 103 (mf 25 24) AA ?_
    refine qqK 24 104 (mf 25 25) AA ?_
    refine zC (by kernel_rfl) ?_ _
    clear AA
    go_wp2_with fail
    refine Handed.intro (n2 - (i + 1)) (by omega) (hJ1 _ _ _ (xX.back 63 ?_ (by kernel_rfl)))
    dsimp only [gt]
    exact ⟨i + 1, by go_num, by omega, rfl, Fs⟩
  have Fw : Hid (xv = sv) := by unfold Hid; rw [FD.out, if_neg (by omega)]
  rw [Fw.out] at Fu
  clear Fw FD
  have q0 : (k == 1) = false := by simpa using hka
  have q1 : (k == 2) = false := by simpa using hkb
  clear hka hkb
  go_upto_region 15 with (fail)
  clear s0 s1 q0 q1
  subst hA1 hA2
  refine zF (S := fun W' => (W'.cell? ⟨b1, o1 + i, none⟩ = some (.int .i64 sv) ∧ W'.cell? ⟨b2, o2 + i, none⟩ = some (.int .i64 sv)) ∧ W'.cell? ⟨x9, 0, none⟩ = some (.int .i64 k)) (J := []) (by kernel_rfl) ?_ (fun AA => ?_)
  ·exact Fu.out
  try dsimp only at AA
  refine qqK 0 80 (mf 25 1) AA ?_
  refine qqK 1 81 (mf 25 2) AA ?_
  refine qqK 2 82 (mf 25 3) AA ?_
  refine qqK 3 83 (mf 25 4) AA ?_
  refine qqK 4 84 (mf 25 5) AA ?_
  refine qqK 5 85 (mf 25 6) AA ?_
  refine qqX 6 86 ?_ (mf 25 7) ?_ AA ?_
  rotate_left
  ·(intro w hSw; (try dsimp only at hSw); have u0 := hSw.1.2; go_simp; try with_reducible rfl)
  refine qqK 7 87 (mf 25 8) AA ?_
  refine qqK 8 88 (mf 25 9) AA ?_
  refine qqK 9 89 (mf 25 10) AA ?_
  refine qqX 10 90 ?_ (mf 25 11) ?_ AA ?_
  rotate_left
  ·(intro w hSw; (try dsimp only at hSw); have u0 := hSw.1.1; go_simp; try with_reducible rfl)
  refine qqK 11 91 (mf 25 12) AA ?_
  refine qqK 12 92 (mf 25 13) AA ?_
  refine qqK 13 93 (mf 25 14) AA ?_
  refine qqK 14 94 (mf 25 15) AA ?_
  refine qqK 15 95 (mf 25 16) AA ?_
  refine ts 16 96 (mf 25 17) AA ?_
  refine ts 17 97 (mf 25 18) AA ?_
  refine ts 18 98 (mf 25 19) AA ?_
  refine ts 19 99 (mf 25 20) AA ?_
  refine ts 20 100 (mf 25 21) AA ?_
  refine ts 21 101 (mf 25 22) AA ?_
  refine ts 22 102 (mf 25 23) AA ?_
  refine qqK 23 103 (mf 25 24) AA ?_
  refine qqK 24 104 (mf 25 25) AA ?_
  refine zC (by kernel_rfl) ?_ _
  clear AA
  go_wp2_with fail
  refine Handed.intro (n2 - (i + 1)) (by omega) (hJ1 _ _ _ (xX.back 63 ?_ (by kernel_rfl)))
  dsimp only [gt]
  exact ⟨i + 1, by go_num, by omega, rfl, Fs⟩
end Go.Proofs.YtddddlhgaeameaaGreatDoor
