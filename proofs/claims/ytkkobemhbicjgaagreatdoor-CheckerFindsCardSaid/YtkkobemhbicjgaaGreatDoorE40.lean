import Derived.Test.YtkkobemhbicjgaaGreatDoorE22
import Derived.Test.YtkkobemhbicjgaaGreatDoorE23
import Derived.Test.YtkkobemhbicjgaaGreatDoorE39
set_option maxRecDepth 100000
set_option maxHeartbeats 8000000
namespace Go.Proofs.YtkkobemhbicjgaaGreatDoor
section
open Go.RowKit
def Fn.eqB (a b : Fn) : Bool := a.st == b.st && a.hz == b.hz
theorem og (a b c d : Int) (w : World) : (binOp .neq 53 (.agg #[.int .i64 a, .int .i64 b]) (.agg #[.int .i64 c, .int .i64 d])).run Tryz.prog w = .ok (.bool (!Fn.eqB ⟨a, b⟩ ⟨c, d⟩)) w := by
 have u3 := Tryz.underlying3
 have a3 := Tryz.isAgg3
 have z3 := Tryz.sizeOf3
 have hS : Tryz.prog.underlying 53 = some (.struct (Tryz.prog.fieldsOf 53)) := by kernel_rfl
 have hp : Tryz.prog.stoodInHeld 53 = false := by kernel_rfl
 rw [run_neq_struct, show (10000 : Nat) = 9999 + 1 from rfl, run_equalIn_agg w 9999 53 _ _ hS hp]
 simp only [Program.fieldsOf, Tryz.underlying53]
 go_simp
 by_cases h0 : a = c <;> by_cases h1 : b = d <;> simp [h0, h1, Fn.eqB]
def SfR (w : World) (a b : List Fn) (n gk : Nat) (iv : Value) (wr : World) : Prop := ∃ i : Nat, iv = .int .i64 i ∧ i ≤ n ∧ gk = n - i ∧ Hid (a.take i = b.take i) ∧ Hid (Below w.heap.size w wr)
theorem mu (A A2 : Option Addr) (n c n2 c2 B B2 : Nat) (a b : List Fn) (w : World) (ha : Sl w B 2 A n c (a.flatMap Fn.cells)) (hb : Sl w B2 2 A2 n2 c2 (b.flatMap Fn.cells)) (hB : B ≤ w.heap.size) (hB2 : B2 ≤ w.heap.size) :
 Calls Tryz.prog 38 #[.slice A n c, .slice A2 n2 c2] w fun e w' => e = .returned (.bool (decide (a = b))) ∧ Below w.heap.size w w' := by
 have HA := iD ha; have HB := iD hb
 have HLA := iD (ha.len (fun _ => rfl) (by decide)); have HLB := iD (hb.len (fun _ => rfl) (by decide))
 have hm1 := ha.le
 have hm2 := hb.le
 clear ha hb
 by_cases hl : n = n2; rotate_left
 ·have q1 : ((n : Int) != (n2 : Int)) = true := by simp; omega
  have q2 : (n != n2) = true := by simpa using hl
  have HV : Hid (decide (a = b) = false) := by
   refine decide_eq_false fun e => hl ?_
   have h1 := HLA.out; have h2 := HLB.out; rw [e] at h1; omega
  clear hl
  go_enter Tryz.func38, Tryz.ntmps38
  go_wp2_with fail
  go_ret
  exact ⟨by rw [HV.out]; rfl, Below.refl _ _⟩
 subst hl
 go_enter Tryz.func38, Tryz.ntmps38
 go_upto_region 4 with (fail)
 refine zv [(3, 0), (0, 1), (0, 2), (4, 0), (14, 1)] 5 (n) (SfR w a b n) (by (try dsimp only [gt]); exact ⟨0, rfl, Nat.zero_le _, rfl, rfl, Below.refl _ _⟩) (by kernel_rfl) ?_
 intro u1 p5 gk wr a hrel ha J1 K1 hJ1 hK1
 dsimp only [zZ, Go.Proofs.YtkkobemhbicjgaaGreatDoor.v1, Nat.reduceAdd] at ha
 subst ha
 obtain ⟨i, rfl, hi, rfl, HE, HBL⟩ := hrel
 by_cases hlt : i < n; rotate_left
 ·have hii : decide ((i : Int) < (n : Int)) = false := by simp; omega
  have hii2 : decide (i < n) = false := by simp; omega
  have HV : Hid (decide (a = b) = true) := by
   have h := HE.out
   rw [List.take_of_length_le (by have := HLA.out; omega), List.take_of_length_le (by have := HLB.out; omega)] at h
   exact decide_eq_true h
  go_wp2_with fail
  go_ret
  exact ⟨by rw [HV.out]; rfl, HBL.out⟩
 obtain ⟨b1, o1, x, hA, hb1, hx, hc⟩ := (HA.out.below HBL.out hB).at (fun _ => rfl) (by decide) hlt
 obtain ⟨b2, o2, y, hA2, hb2, hy, hd⟩ := (HB.out.below HBL.out hB2).at (fun _ => rfl) (by decide) hlt
 obtain ⟨x1, x2⟩ := x
 obtain ⟨y1, y2⟩ := y
 have HCS : Hid ((wr.cell? ⟨b1, o1 + i * 2, none⟩ = some (.int .i64 x1) ∧ wr.cell? ⟨b1, o1 + i * 2 + 1, none⟩ = some (.int .i64 x2)) ∧ wr.cell? ⟨b2, o2 + i * 2, none⟩ = some (.int .i64 y1) ∧ wr.cell? ⟨b2, o2 + i * 2 + 1, none⟩ = some (.int .i64 y2)) := ⟨⟨hc 0 _ rfl, hc 1 _ rfl⟩, hd 0 _ rfl, hd 1 _ rfl⟩
 have HX := iD hx; have HY := iD hy
 subst hA hA2
 clear hc hd hx hy hb1 hb2
 have hq := og x1 x2 y1 y2
 go_upto_region 6 with (fail)
 refine zC (S := fun W' => (W'.cell? ⟨b1, o1 + i * 2, none⟩ = some (.int .i64 x1) ∧ W'.cell? ⟨b1, o1 + i * 2 + 1, none⟩ = some (.int .i64 x2)) ∧ W'.cell? ⟨b2, o2 + i * 2, none⟩ = some (.int .i64 y1) ∧ W'.cell? ⟨b2, o2 + i * 2 + 1, none⟩ = some (.int .i64 y2)) (J := []) (by kernel_rfl) ?_ (fun AA => ?_)
 ·exact HCS.out
 try dsimp only at AA
 refine tk 0 17 (mf 9 1) AA ?_
 refine tk 1 18 (mf 9 2) AA ?_
 refine tk 2 19 (mf 9 3) AA ?_
 refine tx 3 20 ?_ (mf 9 4) ?_ AA ?_
 rotate_left
 ·(intro w hSw; (try dsimp only at hSw); obtain ⟨⟨u0, u1⟩, -⟩ := hSw; go_simp; try with_reducible rfl)
 try simp only [Act.put, sA, sB, sC]
 refine tk 4 21 (mf 9 5) AA ?_
 refine tk 5 22 (mf 9 6) AA ?_
 refine tk 6 23 (mf 9 7) AA ?_
 refine tx 7 24 ?_ (mf 9 8) ?_ AA ?_
 rotate_left
 ·(intro w hSw; (try dsimp only at hSw); obtain ⟨-, u0, u1⟩ := hSw; go_simp; try with_reducible rfl)
 try simp only [Act.put, sA, sB, sC]
 refine tk 8 25 (mf 9 9) AA ?_
 refine zA (by kernel_rfl) ?_ _
 clear AA hq
 have HEQ : Hid (Fn.eqB ⟨x1, x2⟩ ⟨y1, y2⟩ = true ↔ (⟨x1, x2⟩ : Fn) = ⟨y1, y2⟩) := by unfold Hid Fn.eqB; simp
 generalize Fn.eqB ⟨x1, x2⟩ ⟨y1, y2⟩ = bb at *
 rcases bb with _ | _
 ·have HV : Hid (decide (a = b) = false) := by
   refine decide_eq_false fun e => ?_
   have h1 := HX.out; rw [e, HY.out] at h1
   have h2 := HEQ.out.mpr (Option.some.inj h1).symm
   cases h2
  clear HEQ
  go_wp2_with fail
  go_ret
  exact ⟨by rw [HV.out]; rfl, HBL.out.drew⟩
 ·have HN : Hid (a.take (i + 1) = b.take (i + 1)) := by unfold Hid; rw [zQ HX.out, zQ HY.out, HE.out, HEQ.out.mp rfl]
  clear HEQ
  go_wp2_with fail
  refine Handed.intro (n - (i + 1)) (by omega) (hJ1 _ _ _ (yw.back 5 ?_ (by kernel_rfl)))
  dsimp only [gt]
  exact ⟨i + 1, by go_num, by omega, rfl, HN, HBL.out.drew⟩
end
section
open Go.RowKit
theorem sI {w : World} {base size n c x : Nat} {e T : TypeId} {A : Option Addr} {xs : List Value} {cs : Array Value} (h : w.ownsRow base e size (.slice A n c) n xs) (hb : Blk w x T cs) (hne : e ≠ T) : ∀ b, (Value.slice A n c).ownBlock = some b → b ≠ x := by
 intro b hv hbx
 subst hbx
 rcases h.2 with ⟨h0, _⟩ | ⟨g, cap, cur, h0, _, hh, _⟩
 ·injection h0 with h1; subst h1; cases hv
 ·injection h0 with h1; subst h1
  have : g = b := by injection hv
  subst this
  unfold Blk at hb
  rw [hh] at hb
  injection hb with hb
  injection hb with _ hb
  exact hne hb
def GrB (W : World) (g : Nat) (W' : World) : Prop := zP W' g ∧ W.grownBy W' (some g)
def GsF (ds : List Dv) (s : List Int) (nn most : Nat) (W : World) (g : Nat) : List Value → World → Prop
 | [], W' => GrB W g W'
 | [v1], W' => GrB W g W' ∧ ∃ (Ag : Option Addr) (mg cg : Nat) (ls : List Lk), v1 = .slice Ag mg cg ∧ yD W' W.heap.size Ag mg cg ls ∧ wS ds s most ls
 | [v1, v2], W' => GrB W g W' ∧ ∃ (Ag : Option Addr) (mg cg : Nat) (ls : List Lk) (co : Int) (Ap : Option Addr) (np cp : Nat) (pr : List Int), v1 = .slice Ag mg cg ∧ v2 = .agg #[.int .i64 co, .slice Ag mg cg, .slice Ap np cp] ∧ (0 ≤ co ∧ co ≤ 7) ∧ yD W' W.heap.size Ag mg cg ls ∧ zO W' W.heap.size Ap np cp pr ∧ wS ds s most ls ∧ np ≤ nn ∧ yi nn (-1) pr = true
 | _, _ => False
theorem GrB.alloc {W W' : World} {g : Nat} (h : GrB W g W') (o : Obj) : GrB W g (W'.alloc o) := ⟨h.1.alloc o, zM h.2 (zL ((Below.refl _ _).alloc lR o) _)⟩
theorem GsF.base {ds : List Dv} {s : List Int} {nn most : Nat} {W W' : World} {g : Nat} : ∀ {vs : List Value}, GsF ds s nn most W g vs W' → GrB W g W'
 | [], h => h
 | [_], h => h.1
 | [_, _], h => h.1
 | _ :: _ :: _ :: _, h => h.elim
theorem GsF.alloc {ds : List Dv} {s : List Int} {nn most : Nat} {W W' : World} {g : Nat} : ∀ {vs : List Value} (o : Obj), GsF ds s nn most W g vs W' → GsF ds s nn most W g vs (W'.alloc o)
 | [], o, h => GrB.alloc h o
 | [_], o, ⟨h, Ag, mg, cg, ls, e, h1, h2⟩ => ⟨h.alloc o, Ag, mg, cg, ls, e, World.ownsRow.alloc h1 o, h2⟩
 | [_, _], o, ⟨h, Ag, mg, cg, ls, co, Ap, np, cp, pr, e1, e2, hc, h1, h2, h3⟩ => ⟨h.alloc o, Ag, mg, cg, ls, co, Ap, np, cp, pr, e1, e2, hc, World.ownsRow.alloc h1 o, World.ownsRow.alloc h2 o, h3⟩
 | _ :: _ :: _ :: _, _, h => h.elim
theorem GrB.set {W W' : World} {g x : Nat} (h : GrB W g W') (hg : g < W.heap.size) (hx : W.heap.size ≤ x) (i : Nat) (u : Value) : GrB W g (W'.setCell ⟨x, i, none⟩ u) :=
 ⟨h.1.setCell (by simp only; omega) u, zg h.2 (by simp only; omega) u⟩
theorem vg {w : World} {base size n c x : Nat} {e : TypeId} {A : Option Addr} {xs : List Value} (h : w.ownsRow base e size (.slice A n c) n xs) (hne : ∀ b, (Value.slice A n c).ownBlock = some b → b ≠ x) (i : Nat) (u : Value) : (w.setCell ⟨x, i, none⟩ u).ownsRow base e size (.slice A n c) n xs :=
 h.kept (ze _ _ _) (zk hne)
def set3 (w : World) (x : Nat) (u0 u1 u2 : Value) : World := ((w.setCell ⟨x, 0, none⟩ u0).setCell ⟨x, 1, none⟩ u1).setCell ⟨x, 2, none⟩ u2
structure fe (W : World) (g x7 : Nat) (Ag : Option Addr) (mg cg : Nat) (ls : List Lk) (co : Int) (Ap : Option Addr) (np cp : Nat) (pr : List Int) (W' : World) : Prop where
 b : GrB W g W'
 b7 : Blk W' x7 37 #[.int .i64 co, .slice Ag mg cg, .slice Ap np cp]
 hl : yD W' W.heap.size Ag mg cg ls
 hp : zO W' W.heap.size Ap np cp pr
theorem fe.of {W W' : World} {g x7 mg cg np cp : Nat} {Ag Ap : Option Addr} {ls : List Lk} {pr : List Int} (hB : GrB W g W') (h7 : Blk W' x7 37 #[.int .i64 0, .slice none 0 0, .slice none 0 0]) (hx7 : W.heap.size ≤ x7) (hg : g < W.heap.size)
 (hO : yD W' W.heap.size Ag mg cg ls) (hO2 : zO W' W.heap.size Ap np cp pr) (co : Int) : fe W g x7 Ag mg cg ls co Ap np cp pr (set3 W' x7 (.int .i64 co) (.slice Ag mg cg) (.slice Ap np cp)) := by
 have n7 := sI hO h7 (by decide)
 have p7 := sI hO2 h7 (by decide)
 unfold set3
 exact ⟨(((hB.set hg hx7 _ _).set hg hx7 _ _).set hg hx7 _ _), ((h7.set 0 _).set 1 _).set 2 _, vg (vg (vg hO n7 _ _) n7 _ _) n7 _ _, vg (vg (vg hO2 p7 _ _) p7 _ _) p7 _ _⟩
end
section
open Go.RowKit
theorem ol (a b c d : Int) (w : World) : (binOp .eql 53 (.agg #[.int .i64 a, .int .i64 b]) (.agg #[.int .i64 c, .int .i64 d])).run Tryz.prog w = .ok (.bool (Fn.eqB ⟨a, b⟩ ⟨c, d⟩)) w := by
 have u3 := Tryz.underlying3
 have a3 := Tryz.isAgg3
 have z3 := Tryz.sizeOf3
 have hS : Tryz.prog.underlying 53 = some (.struct (Tryz.prog.fieldsOf 53)) := by kernel_rfl
 have hp : Tryz.prog.stoodInHeld 53 = false := by kernel_rfl
 rw [run_eql_struct, show (10000 : Nat) = 9999 + 1 from rfl, run_equalIn_agg w 9999 53 _ _ hS hp]
 simp only [Program.fieldsOf, Tryz.underlying53]
 go_simp
 by_cases h0 : a = c <;> by_cases h1 : b = d <;> simp [h0, h1, Fn.eqB]
theorem kK {nn nd : Nat} : ∀ {xs : List Sp}, (∀ x ∈ xs, zT nn nd x = 0) → zo nn nd xs = 0
 | [], _ => rfl
 | x :: r, h => by
  unfold zo
  rw [if_neg (by simp [h x (by simp)])]
  exact kK fun y hy => h y (List.mem_cons_of_mem _ hy)
theorem ii {ns : List Nd} {ds : List Dv} {m : List Int} {co : Int} {ls : List Lk} {pr : List Int} {nm : ByteArray} {xs : List Sp} (hm : zU ns ds m = 0) (hco : 0 ≤ co ∧ co ≤ 7) (hg : xK ds ls) (hp : yi ns.length (-1) pr = true) (hn : yl (toL nm) = true) (hl : xs.length ≤ 64) (hx : ∀ x ∈ xs, zT ns.length ds.length x = 0) : yn ns ds m co ls pr nm xs = 0 := by
 have hc := (zV hm).1
 have h1 : zy ns ds co ls pr = 0 := by
  unfold zy; rw [if_neg (by omega), if_neg (by rw [xo hc hg]; simp), if_neg (by simp [hp])]
 have h2 : yf ns ds nm xs = 0 := by
  unfold yf; rw [if_neg (by simp [hc]), if_neg (by simp [hn]), if_neg (by omega)]; exact kK hx
 unfold yn; rw [if_neg (by simp [hm]), if_neg (by simp [h1]), h2]
theorem qj.okay {w w' : World} {ns : List Nd} {ds : List Dv} {m : List Int} {co : Int} {ls : List Lk} {pr : List Int} {nm : ByteArray} {xs : List Sp} {e : Ending} (h : qj w ns ds m co ls pr nm xs e w') (h0 : yn ns ds m co ls pr nm xs = 0) (h1 : (zf ns ds co 0 [] ⟨m, ls, pr⟩ xs).e = 0) :
 ∃ (A1 A2 Al Ap : Option Addr) (n1 c1 n2 c2 nl cl np cp : Nat), e = .returned (.tuple #[.agg #[.slice A1 n1 c1, .slice A2 n2 c2, .int .i64 co, .slice Al nl cl, .slice Ap np cp], .int .i64 0]) ∧ Hid (vG w' A1 A2 Al Ap n1 c1 n2 c2 nl cl np cp (zf ns ds co 0 [] ⟨m, ls, pr⟩ xs).o (zf ns ds co 0 [] ⟨m, ls, pr⟩ xs).t) ∧ Hid (Below w.heap.size w w') := by
 obtain ⟨⟨g, -⟩ | ⟨-, g, -⟩ | ⟨-, -, A1, A2, A3, A4, n1, c1, n2, c2, n3, c3, n4, c4, rfl, hR⟩, hb⟩ := h
 ·exact absurd h0 g
 ·exact absurd h1 g
 ·exact ⟨A1, A2, A3, A4, n1, c1, n2, c2, n3, c3, n4, c4, rfl, hR, hb⟩
theorem uv.okay {w w' : World} {ns : List Nd} {ds : List Dv} {m : List Int} {co : Int} {ls : List Lk} {pr : List Int} {nm : ByteArray} {xs : List Sp} {e : Ending} (h : uv w ns ds m co ls pr nm xs e w') (h0 : yn ns ds m co ls pr nm xs = 0) (h1 : (zf ns ds co 0 [] ⟨m, ls, pr⟩ xs).e = 0) :
 ∃ (A1 A2 Al Ap : Option Addr) (n1 c1 n2 c2 nl cl np cp : Nat), e = .returned (.tuple #[.agg #[.slice A1 n1 c1, .slice A2 n2 c2, .int .i64 co, .slice Al nl cl, .slice Ap np cp], .int .i64 0]) ∧ Hid (vG w' A1 A2 Al Ap n1 c1 n2 c2 nl cl np cp (zf ns ds co 0 [] ⟨m, ls, pr⟩ xs).o (zf ns ds co 0 [] ⟨m, ls, pr⟩ xs).t) ∧ Hid (lz w.heap.size A1 A2 Al Ap n1 n2 nl np) ∧ Hid (Below w.heap.size w w') := by
 obtain ⟨⟨g, -⟩ | ⟨-, g, -⟩ | ⟨-, -, A1, A2, A3, A4, n1, c1, n2, c2, n3, c3, n4, c4, rfl, hR, hH⟩, hb⟩ := h
 ·exact absurd h0 g
 ·exact absurd h1 g
 ·exact ⟨A1, A2, A3, A4, n1, c1, n2, c2, n3, c3, n4, c4, rfl, hR, hH, hb⟩
theorem vG.later8 {w w' : World} {A1 A2 Al Ap : Option Addr} {n1 c1 n2 c2 nl cl np cp : Nat} {o : List Fn} {t : Sm} (h : vG w A1 A2 Al Ap n1 c1 n2 c2 nl cl np cp o t) (hb : Below w.heap.size w w') : vG w' A1 A2 Al Ap n1 c1 n2 c2 nl cl np cp o t :=
 ⟨(h.o.below hb lR).more hb.size, (h.s.below hb lR).more hb.size, (h.l.below hb lR).more hb.size, (h.p.below hb lR).more hb.size⟩
end
section
open Go.RowKit
theorem Sl.fnd {w : World} {B n c i : Nat} {A : Option Addr} {fs : List Fn} (h : Sl w B 2 A n c (fs.flatMap Fn.cells)) (hi : i < n) : ∃ b off d p, A = some ⟨b, off, none⟩ ∧ b < B ∧ fs[i]? = some ⟨d, p⟩ ∧ w.cell? ⟨b, off + i * 2, none⟩ = some (.int .i64 d) ∧ w.cell? ⟨b, off + i * 2 + 1, none⟩ = some (.int .i64 p) := by
 obtain ⟨b, off, ⟨d, p⟩, e, hb, hx, hc⟩ := h.at (fun _ => rfl) (by decide) hi
 exact ⟨b, off, d, p, e, hb, hx, hc 0 _ rfl, hc 1 _ rfl⟩
def gK (g : Nat) (lb : Array Value) (p : Fn → Bool) (w : World) : Prop :=
 ∀ (W : World) (d q : Int), Below w.heap.size w W → Calls Tryz.prog g (#[.agg #[.int .i64 d, .int .i64 q]] ++ lb) W fun e w' => e = .returned (.bool (p ⟨d, q⟩)) ∧ Below w.heap.size w w'
def eL (w : World) (ls : List Fn) (p : Fn → Bool) (n gk : Nat) (_kv iv : Value) (wr : World) : Prop := ∃ i : Nat, iv = .int .i64 i ∧ i ≤ n ∧ gk = n - i ∧ Hid (∀ x ∈ ls.take i, p x = false) ∧ Hid (Below w.heap.size w wr)
theorem lQ (g : Nat) (lb : Array Value) (p : Fn → Bool) (eg : ∀ args w, (callFunc g args).run Tryz.prog w = .ok (.enter g args) w) (A : Option Addr) (n c B : Nat) (ls : List Fn) (w : World) (hs : Sl w B 2 A n c (ls.flatMap Fn.cells)) (hB : B ≤ w.heap.size) (hp : gK g lb p w) :
 Calls Tryz.prog 89 #[.slice A n c, .func (.func g) #[] lb] w fun e w' => (∃ i : Int, e = .returned (.int .i64 i) ∧ Hid (decide (0 ≤ i) = ls.any p)) ∧ Below w.heap.size w w' := by
 have HLN := iD (hs.len (fun _ => rfl) (by decide)); have HS := iD hs
 have hle := hs.le
 have HP := iD hp
 clear hs hp
 go_enter Tryz.func89, Tryz.ntmps89
 go_wp2_with fail
 go_loopg [5, 8] n (eL w ls p n)
 case atStart => exact ⟨0, rfl, Nat.zero_le _, rfl, (fun x hx => by simp at hx), Below.refl _ _⟩
 case round =>
  obtain ⟨i, rfl, hi, rfl, hno, hbl⟩ := hrel
  by_cases hlt : i < n
  ·obtain ⟨b, off, d1, p1, rfl, hb, hx, c0, c1⟩ := (HS.out.below hbl.out hB).fnd hlt
   have HX := iD hx
   have hcall := HP.out wr d1 p1 hbl.out
   clear hx
   rcases hq : p ⟨d1, p1⟩ with _ | _
   ·rw [hq] at hcall
    have HN : Hid (∀ x ∈ ls.take (i + 1), p x = false) := fun x hx => by
     rw [zQ HX.out] at hx
     rcases List.mem_append.1 hx with h | h
     ·exact hno.out x h
     ·rw [List.mem_singleton.1 h]; exact hq
    clear hq
    go_wp2_with (go_at_fn g; refine hcall.mono ?_; rintro e w' ⟨rfl, hb'⟩)
    go_roundg (n - (i + 1))
    case rel => exact ⟨i + 1, by go_num, by omega, rfl, HN, hb'⟩
    case measure => omega
   ·rw [hq] at hcall
    have HR : Hid (decide (0 ≤ (i : Int)) = ls.any p) := by
     unfold Hid
     rw [decide_eq_true (by omega)]
     symm
     rw [List.any_eq_true]
     exact ⟨_, List.mem_of_getElem? HX.out, hq⟩
    clear hq
    go_wp2_with (go_at_fn g; refine hcall.mono ?_; rintro e w' ⟨rfl, hb'⟩)
    go_ret
    exact ⟨⟨_, rfl, HR⟩, hb'⟩
  ·obtain rfl : i = n := by omega
   have hii : decide (i < i) = false := by simp
   have HR : Hid (decide (0 ≤ (-1 : Int)) = ls.any p) := by
    have := hno.out
    rw [List.take_of_length_le (by rw [HLN.out]; exact Nat.le_refl _)] at this
    unfold Hid
    rw [decide_eq_false (by omega)]
    symm
    rw [List.any_eq_false]
    intro x hx
    rw [this x hx]; simp
   go_wp2_with fail
   go_ret
   exact ⟨⟨_, rfl, HR⟩, hbl.out⟩
theorem nO (g : Nat) (lb : Array Value) (p : Fn → Bool) (eg : ∀ args w, (callFunc g args).run Tryz.prog w = .ok (.enter g args) w) (A : Option Addr) (n c B : Nat) (ls : List Fn) (w : World) (hs : Sl w B 2 A n c (ls.flatMap Fn.cells)) (hB : B ≤ w.heap.size) (hp : gK g lb p w) :
 Calls Tryz.prog 61 #[.slice A n c, .func (.func g) #[] lb] w fun e w' => e = .returned (.bool (ls.any p)) ∧ Below w.heap.size w w' := by
 have HI := iD (lQ g lb p eg A n c B ls w hs hB hp)
 clear hs hp
 go_enter Tryz.func61, Tryz.ntmps61
 go_wp2_with fail
 refine HI.out.mono ?_
 rintro e w1 ⟨⟨i, rfl, hi⟩, hb⟩
 go_wp2_with fail
 go_ret
 exact ⟨zG hi.out, hb⟩
def fP (fs : List Fn) (but : List Int) : Bool := !fs.any fun f => !xv but f.hz
theorem lh (A A2 Al Ap Ab : Option Addr) (n c n2 c2 nl cl np cp mb cb : Nat) (co : Int) (fs : List Fn) (but : List Int) (w : World) (hf : Sl w w.heap.size 2 A n c (fs.flatMap Fn.cells)) (hb : Sl w w.heap.size 1 Ab mb cb (zD but)) :
 Calls Tryz.prog 34 #[.agg #[.slice A n c, .slice A2 n2 c2, .int .i64 co, .slice Al nl cl, .slice Ap np cp], .slice Ab mb cb] w fun e w' => e = .returned (.bool (fP fs but)) ∧ Below w.heap.size w w' := by
 have HB : Hid (Below w.heap.size w ((w.alloc (.cells #[.slice A n c, .slice A2 n2 c2, .int .i64 co, .slice Al nl cl, .slice Ap np cp] 47)).alloc (.cells #[.slice Ab mb cb] 22))) := ((Below.refl _ _).alloc lR _).alloc (by simp) _
 have H0 : Hid (Blk ((w.alloc (.cells #[.slice A n c, .slice A2 n2 c2, .int .i64 co, .slice Al nl cl, .slice Ap np cp] 47)).alloc (.cells #[.slice Ab mb cb] 22)) w.heap.size 47 #[.slice A n c, .slice A2 n2 c2, .int .i64 co, .slice Al nl cl, .slice Ap np cp]) := (Blk.new w _ _).alloc _
 have H1 : Hid (Blk ((w.alloc (.cells #[.slice A n c, .slice A2 n2 c2, .int .i64 co, .slice Al nl cl, .slice Ap np cp] 47)).alloc (.cells #[.slice Ab mb cb] 22)) (w.heap.size + 1) 22 #[.slice Ab mb cb]) := by
  have := Blk.new (w.alloc (.cells #[.slice A n c, .slice A2 n2 c2, .int .i64 co, .slice Al nl cl, .slice Ap np cp] 47)) 22 #[.slice Ab mb cb]
  unfold Hid; simpa using this
 have HF := iD hf; have HU := iD hb
 clear hf hb
 go_enter Tryz.func34, Tryz.ntmps34
 go_upto_region 1 with (fail)
 generalize World.alloc (World.alloc w _) _ = W at *
 have HC := iD (nO 62 #[.pointer (some ⟨w.heap.size + 1, 0, none⟩)] (fun f => !xv but f.hz) (enters_of Tryz.func62 (by kernel_rfl) rfl) A n c w.heap.size fs W (HF.out.below HB.out lR) HB.out.size (fun V d q hV => by
  have HV := iD hV
  have HK := iD (H1.out.below hV H1.out.lt)
  clear hV
  show Calls Tryz.prog 62 #[.agg #[.int .i64 d, .int .i64 q], .pointer (some ⟨w.heap.size + 1, 0, none⟩)] V _
  have HBL : Hid (Below V.heap.size V (V.alloc (.cells #[.int .i64 d, .int .i64 q] 53))) := (Below.refl _ _).alloc lR _
  have HQ := iD (HK.out.alloc (.cells #[.int .i64 d, .int .i64 q] 53))
  have HN := iD (Blk.new V 53 #[.int .i64 d, .int .i64 q])
  go_enter Tryz.func62, Tryz.ntmps62
  go_upto_region 1 with (fail)
  generalize World.alloc V _ = X at *
  have b0 := HQ.out.c0
  have e1 := HN.out.c1
  have HZ := iD (xG Ab mb cb w.heap.size but q X ((((HU.out.below HB.out lR).below HV.out HB.out.size)).below HBL.out (Nat.le_trans HB.out.size HV.out.size)))
  go_wp2_with fail
  clear b0 e1
  refine HZ.out.mono ?_
  rintro e w2 ⟨rfl, rfl⟩
  go_wp2_with fail
  go_ret
  exact ⟨rfl, HV.out.trans (HBL.out.mono HV.out.size)⟩))
 have k0 := H0.out.c0
 go_wp2_with fail
 clear k0
 refine HC.out.mono ?_
 rintro e w1 ⟨rfl, hb1⟩
 go_wp2_with fail
 go_ret
 exact ⟨rfl, HB.out.trans (hb1.mono HB.out.size)⟩
end
section
open Go.RowKit
end
section
open Go.RowKit
def nsC : List Nd := [⟨⟨#[65]⟩, 0, 0⟩]
def dsC : List Dv := [⟨⟨#[83]⟩, 5, 0, -1, 0⟩, ⟨⟨#[69]⟩, 4, 0, -1, 0⟩]
structure AwC (w wr : World) : Prop where
 bn : Blk wr (w.heap.size + 1 + 1) 30 #[.slice (some ⟨w.heap.size, 0, none⟩) 1 1, .slice (some ⟨w.heap.size + 1, 0, none⟩) 2 2]
 sn : Sl wr (w.heap.size + 1) 3 (some ⟨w.heap.size, 0, none⟩) 1 1 (nsC.flatMap Nd.cells)
 sd : Sl wr (w.heap.size + 1 + 1) 5 (some ⟨w.heap.size + 1, 0, none⟩) 2 2 (dsC.flatMap Dv.cells)
 bl : Below w.heap.size w wr
 la : Laid wr
 sz : w.heap.size + 3 ≤ wr.heap.size
theorem AwC.later {w wr wr' : World} (h : AwC w wr) (hb : Below wr.heap.size wr wr') : AwC w wr' :=
 ⟨h.bn.below hb h.bn.lt, h.sn.below hb (by have := h.sz; omega), h.sd.below hb (by have := h.sz; omega), h.bl.trans (hb.mono h.bl.size), h.la.below hb lR, Nat.le_trans h.sz hb.size⟩
theorem AwC.mk0 (w : World) (hl : Laid w) : AwC w (((w.alloc (.cells #[.string ⟨#[65]⟩, .int .i64 0, .int .i64 0] 85)).alloc (.cells #[.string ⟨#[83]⟩, .int .i64 5, .int .i64 0, .int .i64 (-1), .int .i64 0, .string ⟨#[69]⟩, .int .i64 4, .int .i64 0, .int .i64 (-1), .int .i64 0] 57)).alloc (.cells #[.slice (some ⟨w.heap.size, 0, none⟩) 1 1, .slice (some ⟨w.heap.size + 1, 0, none⟩) 2 2] 30)) := by
 refine ⟨?_, ?_, ?_, ?_, ((hl.alloc _).alloc _).alloc _, by simp⟩
 ·have := Blk.new ((w.alloc (.cells #[.string ⟨#[65]⟩, .int .i64 0, .int .i64 0] 85)).alloc (.cells #[.string ⟨#[83]⟩, .int .i64 5, .int .i64 0, .int .i64 (-1), .int .i64 0, .string ⟨#[69]⟩, .int .i64 4, .int .i64 0, .int .i64 (-1), .int .i64 0] 57)) 30 #[.slice (some ⟨w.heap.size, 0, none⟩) 1 1, .slice (some ⟨w.heap.size + 1, 0, none⟩) 2 2]
  simpa using this
 ·refine Sl.alloc (Sl.alloc ?_ (by simp) _) (by simp) _
  exact Sl.newest (n := 1) (size := 3) rfl rfl (by decide)
 ·refine Sl.alloc ?_ (by simp) _
  exact Sl.newest (n := 2) (size := 5) (by simp) rfl (by decide)
 ·exact (((Below.refl _ _).alloc lR _).alloc (by simp) _).alloc (by simp; omega) _
end
section
open Go.RowKit
def rm (w : World) (g nd most : Nat) (e : Ending) (w' : World) : Prop :=
 ∃ (A : Option Addr) (c : Nat) (m : List Int), e = .returned (.slice A nd c) ∧ Hid (zP w' g) ∧ Hid (w.grownBy w' (some g)) ∧ Hid (zO w' (w.heap.size + 1) A nd c m) ∧ Hid (∀ p ∈ m, zj p = true) ∧ Hid (zl m m.length ≤ most)
theorem ra {s : List Int} (h : ∀ p ∈ s, posB p = true) : ∀ n, zl s n = 0
 | 0 => rfl
 | n + 1 => by
  rw [yY, ra h n, if_neg]
  intro e
  have := h 3 (List.mem_of_getElem? e)
  simp [posB] at this
theorem mQ (m : List Int) (i : Nat) : ∀ n, zl (m.set i 3) n ≤ zl m n + 1 ∧ (n ≤ i → zl (m.set i 3) n = zl m n)
 | 0 => ⟨by simp [zl, xO], fun _ => rfl⟩
 | n + 1 => by
  obtain ⟨h1, h2⟩ := mQ m i n
  rw [yY, yY]
  by_cases hn : n = i
  ·subst hn
   have := h2 lR
   refine ⟨?_, fun h => by omega⟩
   rw [this]
   split <;> split <;> omega
  ·rw [List.getElem?_set_ne (by omega)]
   exact ⟨by omega, fun h => by rw [h2 (by omega)]⟩
def MmR (W : World) (g nd most : Nat) (A : Option Addr) (c gk : Nat) (iv : Value) (wr : World) : Prop :=
 ∃ (i : Nat) (m : List Int), iv = .int .i64 i ∧ i ≤ most ∧ gk = most - i ∧ Hid (zO wr (W.heap.size + 1) A nd c m) ∧ Hid (zP wr g) ∧ Hid (W.grownBy wr (some g)) ∧ Hid (∀ p ∈ m, zj p = true) ∧ Hid (zl m m.length ≤ i)
theorem pS (g : Nat) (An Ad : Option Addr) (nn cn nd cd most : Nat) (ds : List Dv) (w : World) (hd : zP w g) (hx : SlX w g 5 Ad nd cd (ds.flatMap Dv.cells)) (hnd : nd ≤ 1000) (hmo : most ≤ 1000) :
 Calls Tryz.prog 14 #[.pointer (some ⟨g, 0, none⟩), .agg #[.slice An nn cn, .slice Ad nd cd], .int .i64 (most : Int)] w (rm w g nd most) := by
 have hlt := hd.lt
 have HST := iD (pR g An Ad nn cn nd cd ds (w.alloc (.cells #[.slice An nn cn, .slice Ad nd cd] 30)) (hd.alloc _) (hx.alloc _) hnd)
 have HB0 : Hid (w.grownBy (w.alloc (.cells #[.slice An nn cn, .slice Ad nd cd] 30)) (some g)) := zL ((Below.refl _ _).alloc lR _) _
 have HW : Hid ((w.alloc (.cells #[.slice An nn cn, .slice Ad nd cd] 30)).heap.size = w.heap.size + 1) := by unfold Hid; simp
 clear hd hx
 go_enter Tryz.func14, Tryz.ntmps14
 go_wp2_with fail
 generalize World.alloc _ _ = W at *
 refine HST.out.mono ?_
 rintro e w1 ⟨A, c, s, rfl, hd1, hg1, hO1, hp1⟩
 have HM1 : Hid (∀ p ∈ s, zj p = true) := fun p hp => by have := hp1.out p hp; simp [posB, zj] at *; omega
 have HC1 : Hid (zl s s.length ≤ 0) := by unfold Hid; rw [ra hp1.out]; exact Nat.le_refl _
 have hWz := HW.out
 have hgW : g < W.heap.size := by omega
 clear HST hp1 hWz
 go_wp2_with fail
 go_loopg [8] most (MmR W g nd most A c)
 case atStart => exact ⟨0, s, rfl, Nat.zero_le _, rfl, hO1, hd1, hg1, HM1, HC1⟩
 case round =>
  clear hO1 hd1 hg1 HM1 HC1
  obtain ⟨i, m, rfl, hi, rfl, hO, hD, hG, hM, hC⟩ := hrel
  by_cases hgo : i < most ∧ 0 < nd
  ·obtain ⟨hlt2, hnd0⟩ := hgo
   go_wp2_with fail
   refine (xk g 2 wr hD.out (by decide)).mono ?_
   rintro e w3 ⟨r, rfl, hd3, hg3, hs3⟩
   have HO3 := iD (hO.out.kept hg3.out (zk fun b e => by have := (hO.out.lt b e).1; omega))
   have HG3 := iD (zM hG.out hg3.out)
   clear hD hG hg3 hs3 hO
   rcases r with _ | _
   ·have HC2 : Hid (zl m m.length ≤ i + 1) := by have := hC.out; unfold Hid; omega
    go_wp2_with fail
    go_roundg (most - (i + 1))
    case rel => exact ⟨i + 1, m, by go_num, by omega, rfl, HO3, hd3, HG3, hM, HC2⟩
    case measure => omega
   ·go_wp2_with fail
    refine (zS g (nd : Int) w3 hd3.out (by omega)).mono ?_
    rintro e w4 ⟨v, rfl, hv0, _, hv1, hd4, hg4, hs4⟩
    have hvn := hv1.out (by omega)
    obtain ⟨t, rfl⟩ := Int.eq_ofNat_of_zero_le hv0
    have htn : t < nd := by omega
    have HO4 := iD (HO3.out.kept hg4.out (zk fun b e => by have := (HO3.out.lt b e).1; omega))
    have HG4 := iD (zM HG3.out hg4.out)
    clear hd3 hg4 hs4 HO3 HG3 hv1 hvn hv0
    obtain ⟨q, y, rfl, hq1, hq2, hy, hcy, hfy, hst⟩ := zO.at HO4.out htn
    have HSW := iD (hst 3)
    have HD5 := iD (hd4.out.setCell (p := ⟨q, t, none⟩) (by simp; omega) (.int .i64 3))
    have HG5 := iD (zg HG4.out (p := ⟨q, t, none⟩) (by simp; omega) (.int .i64 3))
    have HM5 : Hid (∀ p ∈ m.set t 3, zj p = true) := fun p hp => by
     rcases List.mem_or_eq_of_mem_set hp with h1 | h1
     ·exact hM.out p h1
     ·rw [h1]; rfl
    have HC5 : Hid (zl (m.set t 3) (m.set t 3).length ≤ i + 1) := by
     have h1 := (mQ m t m.length).1
     have h2 := hC.out
     unfold Hid; rw [List.length_set]; omega
    clear hst hd4 HO4 HG4 hy
    go_wp2_with fail
    go_roundg (most - (i + 1))
    case rel => exact ⟨i + 1, _, by go_num, by omega, rfl, HSW, HD5, HG5, HM5, HC5⟩
    case measure => omega
  ·have HEND : Hid (rm w g nd most (.returned (.slice A nd c)) wr) := ⟨A, c, m, rfl, hD, zM HB0.out hG.out, hO.out.mono (by have := HW.out; omega), hM, (by have := hC.out; unfold Hid; omega)⟩
   by_cases hl : i < most
   ·obtain rfl : nd = 0 := by omega
    go_wp2_with fail
    go_ret
    exact HEND.out
   ·have ql : decide ((i : Int) < (most : Int)) = false := by simp; omega
    have ql2 : decide (i < most) = false := by simp; omega
    go_wp2_with fail
    go_ret
    exact HEND.out
end
section
open Go.RowKit
theorem xD.appL {w w' : World} {base n c : Nat} {A : Option Addr} {ls : List (List Int)} {vs : List Value} (h : xD w base A n c ls vs) {A1 An : Option Addr} {c1 cn ln : Nat} {l : List Int} (hln : l.length = ln) (hown : w'.ownsRow base 22 1 (.slice A1 (n + 1) c1) (n + 1) (vs ++ [.slice An ln cn])) (hg : w.grownBy w' (Value.slice A n c).ownBlock)
 (hat : (Value.slice A1 (n + 1) c1).ownBlock = (Value.slice A n c).ownBlock ∨ (Value.slice A1 (n + 1) c1).ownBlock = some w.heap.size) (hl : Sl w w.heap.size 1 An ln cn (zD l)) (hlt : ∀ b off, An = some ⟨b, off, none⟩ → b < w.heap.size ∧ some b ≠ (Value.slice A n c).ownBlock) : xD w' base A1 (n + 1) c1 (ls ++ [l]) (vs ++ [.slice An ln cn]) := by
 subst hln
 exact h.app hown hg hat hl hlt
def vO (x : Int) (o : List Int) (p : Nat) : List (List Int) := (if 2 ≤ p ∧ x ≠ 2 then [o ++ [1]] else []) ++ (if 3 ≤ p ∧ x ≠ 1 then [o ++ [2]] else [])
theorem lG (x : Int) (o : List Int) : vO x o 1 = [] := rfl
theorem ot {x : Int} (o : List Int) (h : x = 1 ∨ x = 2 ∨ x = 3) : vO x o 3 = xM (some x) o := by
 rcases h with rfl | rfl | rfl <;> rfl
theorem lH (x : Int) (o : List Int) (p : Nat) : (vO x o p).length ≤ 2 := by
 unfold vO; split <;> split <;> simp
theorem ku (x : Option Int) (ls : List (List Int)) : (ls.flatMap (xM x)).length ≤ 2 * ls.length := by
 induction ls with
 | nil => simp
 | cons o ls ih =>
  rw [List.flatMap_cons, List.length_append, List.length_cons]
  have : (xM x o).length ≤ 2 := by unfold xM; split <;> simp
  omega
theorem rg {m : List Int} (h : yL m = 0) : (∀ x ∈ m, zj x = true) ∧ zl m m.length ≤ 8 := by
 unfold yL at h
 split at h
 ·next hv =>
  split at h
  ·omega
  ·exact ⟨List.all_eq_true.1 hv, by omega⟩
 ·omega
def eB (w : World) (m : List Int) (gk : Nat) (ov iv : Value) (wr : World) : Prop := ∃ (i no co : Nat) (Ao : Option Addr), iv = .int .i64 i ∧ ov = .slice Ao no co ∧ i ≤ m.length ∧ gk = m.length - i ∧ Hid (yW wr wr.heap.size Ao no co (xe m i)) ∧ Hid (Below w.heap.size w wr)
def eA (W : World) (m : List Int) (i no gk : Nat) (ov iv : Value) (wr : World) : Prop := ∃ (k nx cx : Nat) (Ax : Option Addr) (vs : List Value), iv = .int .i64 k ∧ ov = .slice Ax nx cx ∧ k ≤ no ∧ gk = no - k ∧ Hid (xD wr W.heap.size Ax nx cx (((xe m i).take k).flatMap (xM m[i]?)) vs) ∧ Hid (Below W.heap.size W wr)
def fz (W : World) (m : List Int) (i k : Nat) (x : Int) (o : List Int) (gk : Nat) (ov pv : Value) (wr : World) : Prop := ∃ (p nx cx : Nat) (Ax : Option Addr) (vs : List Value), pv = .int .i64 p ∧ ov = .slice Ax nx cx ∧ 1 ≤ p ∧ p ≤ 3 ∧ gk = 3 - p ∧ Hid (xD wr W.heap.size Ax nx cx (((xe m i).take k).flatMap (xM m[i]?) ++ vO x o p) vs) ∧ Hid (Below W.heap.size W wr)
theorem kW (A : Option Addr) (c B : Nat) (m : List Int) (w : World) (hs : Sl w B 1 A m.length c (zD m)) (hB : B ≤ w.heap.size) (hn : m.length ≤ 1000) : Calls Tryz.prog 39 #[.slice A m.length c] w (oJ w m) := by
 have HC := iD (oo A m.length c B m w hs hB (by omega))
 have HS := iD hs
 clear hs
 by_cases he : yL m = 0; rotate_left
 ·have q : (yL m != 0) = true := by simpa using he
  have HE := iD he
  clear he
  go_enter Tryz.func39, Tryz.ntmps39
  go_wp2_with fail
  refine HC.out.mono ?_
  rintro e w1 ⟨rfl, hb1⟩
  go_wp2_with fail
  go_ret2
  exact ⟨.inl ⟨HE.out, rfl⟩, hb1⟩
 have HMB := iD (rg he).1
 have HU8 := iD (rg he).2
 have HE := iD he
 rw [he] at HC
 clear he
 generalize vW m = cv at *
 go_enter Tryz.func39, Tryz.ntmps39
 go_wp2_with fail
 refine HC.out.mono ?_
 rintro e w1 ⟨rfl, hb1⟩
 go_wp2_with fail
 have HR0 : Hid (yW (w1.alloc (.cells #[.slice none 0 0] 22)) (w1.alloc (.cells #[.slice none 0 0] 22)).heap.size (some ⟨w1.heap.size, 0, none⟩) 1 1 (xe m 0)) :=
  ⟨[.slice none 0 0], (Sl.newest (n := 1) (size := 1) (w := w1) rfl (by rfl) (by decide)).more (by simp), rfl, fun i l hl => by
   cases i with
   | zero => simp [xe] at hl; subst hl; exact ⟨none, 0, rfl, Sl.nil _ _ _⟩
   | succ i => simp [xe] at hl⟩
 have HB0 := iD (hb1.alloc hb1.size (.cells #[.slice none 0 0] 22))
 clear HC hb1
 generalize World.alloc _ _ = w2 at *
 go_loopg [6, 7] m.length (eB w m)
 case atStart => exact ⟨0, 1, 1, _, rfl, rfl, Nat.zero_le _, rfl, HR0, HB0⟩
 case round =>
  clear HR0 HB0
  obtain ⟨i, no, co, Ao, rfl, rfl, hi, rfl, hra, hbl⟩ := hrel
  by_cases hlt : i < m.length
  ·have hno : no ≤ 256 := by
    have h1 := hra.out.len
    rw [uq] at h1
    have := Nat.pow_le_pow_right (n := 2) (by decide) (Nat.le_trans (vn m (Nat.le_of_lt hlt)) HU8.out)
    omega
   have hzw := hbl.out.size
   go_wp2_with fail
   generalize wr = W at *
   go_loopg [8, 9] no (eA W m i no)
   case atStart => exact ⟨0, 0, 0, none, [], rfl, rfl, Nat.zero_le _, rfl, xD.nil _ _, Below.refl _ _⟩
   case round =>
    obtain ⟨k, nx, cx, Ax, vs, rfl, rfl, hk, rfl, hro, hbw⟩ := hrel
    by_cases hkt : k < no
    ·obtain ⟨rb, ro, o, Ak, ck, rfl, hrb, ho, hrc, hrs⟩ := hra.out.at hkt
     have HO := iD ho
     have HOL : Hid (o.length = i) := ((xr m i o).1 (List.mem_of_getElem? ho)).1
     have hol : o.length ≤ 1000 := by have := HOL.out; omega
     have HRS := iD hrs
     obtain ⟨x, hx⟩ : ∃ x, m[i]? = some x := ⟨_, List.getElem?_eq_getElem hlt⟩
     have HX := iD hx
     have hx3 : x = 1 ∨ x = 2 ∨ x = 3 := by
      have := HMB.out x (List.mem_of_getElem? hx)
      simp [zj] at this; omega
     have HX3 := iD hx3
     have HSTEP : Hid (((xe m i).take (k + 1)).flatMap (xM m[i]?) = ((xe m i).take k).flatMap (xM m[i]?) ++ vO x o 3) := by
      unfold Hid
      rw [zQ ho, List.flatMap_append, ot o hx3, hx]; simp
     have HTL : Hid ((((xe m i).take k).flatMap (xM m[i]?)).length ≤ 512) := by
      have h1 := ku m[i]? ((xe m i).take k)
      have h2 : ((xe m i).take k).length ≤ k := List.length_take_le _ _
      unfold Hid; omega
     have HRC := iD hrc
     clear ho hrs hx hx3 hrc
     go_wp2_with fail
     go_loopg [8, 10] 2 (fz W m i k x o)
     case atStart => exact ⟨1, nx, cx, Ax, vs, rfl, rfl, Nat.le_refl _, by omega, rfl, (by unfold Hid; rw [lG, List.append_nil]; exact hro.out), hbw⟩
     case round =>
      clear hro hbw
      obtain ⟨p, nx, cx, Ax, vs, rfl, rfl, hp1, hp3, rfl, hro, hbw⟩ := hrel
      have hnx : nx ≤ 600 := by
       have h1 := hro.out.2.1
       rw [List.length_append] at h1
       have := lH x o p
       have := HTL.out
       omega
      by_cases hpt : p = 3
      ·subst hpt
       have HR5 : Hid (xD wr W.heap.size Ax nx cx (((xe m i).take (k + 1)).flatMap (xM m[i]?)) vs) := by unfold Hid; rw [HSTEP.out]; exact hro.out
       go_wp2_with fail
       go_roundg (no - (k + 1))
       case rel => exact ⟨k + 1, nx, cx, Ax, vs, by go_num, rfl, by omega, rfl, HR5, hbw⟩
       case measure => omega
      ·obtain ⟨mb, mo, x', rfl, hmb, hx', hmc⟩ := ((HS.out.below hbl.out hB).below hbw.out (by omega)).at1 hlt
       obtain rfl : x' = x := by rw [HX.out] at hx'; injection hx' with h; exact h.symm
       have hp2 : p ≤ 2 := by omega
       have q2 : decide ((p : Int) ≤ 2) = true := by simp; omega
       clear hx' hpt
       by_cases hyes : (p = 1 ∧ x' ≠ 2) ∨ (p = 2 ∧ x' ≠ 1)
       ·have qa : (bits BinOp.and IntKind.i64 x' (p : Int) != 0) = true := by
         have := HX3.out
         rcases hyes with ⟨rfl, h⟩ | ⟨rfl, h⟩ <;> rcases this with rfl | rfl | rfl <;> first | rfl | exact absurd rfl h
        have HPT : Hid (((xe m i).take k).flatMap (xM m[i]?) ++ vO x' o (p + 1) = (((xe m i).take k).flatMap (xM m[i]?) ++ vO x' o p) ++ [o ++ [(p : Int)]]) := by
         unfold Hid
         rw [List.append_assoc]
         congr 1
         have := HX3.out
         rcases hyes with ⟨rfl, h⟩ | ⟨rfl, h⟩ <;> rcases this with rfl | rfl | rfl <;> first | rfl | exact absurd rfl h
        have hrc : wr.cell? ⟨rb, ro + k, none⟩ = some (.slice Ak o.length ck) := (hbw.out.cell (p := ⟨rb, ro + k, none⟩) hrb).trans HRC.out
        have HRS2 := iD ((HRS.out.below hbw.out lR).more hbw.out.size)
        clear hyes
        have hwz := hbw.out.size
        go_wp2_with (at_builtin; go_must (first
         | (refine zR rfl _ (.tmp 47) rfl xF (by rfl) (World.ownsRow_nil _ wr.heap.size _ _) (by rfl) HRS2.out (vS o) (by omega) (by omega) lR ?_; intro A1 co1 w4 hown4 hgr4 hat4; simp only [Nat.zero_add, List.nil_append] at hown4 hgr4 ⊢; have HO4 : Hid (zO w4 wr.heap.size A1 o.length co1 o) := hown4; have HB4 : Hid (Below wr.heap.size wr w4) := ⟨hgr4.os, hgr4.tape, hgr4.output, hgr4.size, fun i hi => hgr4.block i hi (by simp [Value.ownBlock])⟩; clear hown4 hgr4 hat4)
         | (refine zR rfl (.tmp 48) (.tmp 50) rfl xF (by rfl) (HO4.out.alloc _) (by rfl) (Sl.newest (n := 1) (by simp) (by rfl) (by decide)) (by simp [Value.oneCell']) (by omega) (by omega) (by have := HB4.out.size; simp; omega) ?_; intro A2 co2 w5 hown5 hgr5 hat5; have HO5 := iD hown5; have HB5 : Hid (Below wr.heap.size wr w5) := (HB4.out.alloc HB4.out.size _).trans ⟨hgr5.os, hgr5.tape, hgr5.output, hgr5.size, fun t ht => hgr5.block t (by have := HB4.out.size; simp; omega) (fun e => by have := (HO4.out.lt t e.symm).1; omega)⟩; clear hown5 hgr5 hat5)
         | (refine zR rfl (.tmp 43) (.tmp 52) rfl ic (by rfl) ((hro.out.kept (HB5.out.alloc HB5.out.size (.cells #[.slice A2 (o.length + 1) co2] 22)) lR).1) (by rfl) (Sl.newest (n := 1) (by simp) (by rfl) (by decide)) (by simp [Value.oneCell']) (by omega) (by omega) (by have := HB5.out.size; simp; omega) ?_; intro A3 co3 w6 hown6 hgr6 hat6; have HO6 := iD hown6; have HG6 := iD hgr6; have HAT6 := iD hat6; clear hown6 hgr6 hat6)))
        have HB6 := iD (HB5.out.alloc HB5.out.size (.cells #[.slice A2 (o.length + 1) co2] 22))
        have HR6 : Hid (xD w6 W.heap.size A3 (nx + 1) co3 (((xe m i).take k).flatMap (xM m[i]?) ++ vO x' o (p + 1)) (vs ++ [.slice A2 (o.length + 1) co2])) := by
         unfold Hid
         rw [HPT.out]
         refine (hro.out.kept HB6.out lR).appL (by simp) HO6.out HG6.out HAT6.out ?_ ?_
         ·have h1 := (Sl.of_own HO5.out)
          have h2 : Sl (w5.alloc (.cells #[.slice A2 (o.length + 1) co2] 22)) w5.heap.size 1 A2 (o.length + 1) co2 (zD (o ++ [(p : Int)])) := by rw [zq]; exact h1.alloc lR _
          exact h2.more (by simp)
         ·intro b off e
          have h1 := HO5.out.lt b (by rw [e]; rfl)
          refine ⟨by simp; omega, fun e2 => ?_⟩
          have := (hro.out.lt b e2.symm).2
          omega
        have HB7 : Hid (Below W.heap.size W w6) := by
         have h1 := hbw.out.trans (HB6.out.mono hwz)
         refine h1.trans ⟨HG6.out.os, HG6.out.tape, HG6.out.output, HG6.out.size, fun t ht => HG6.out.block t (by have := h1.size; omega) (fun e => by have := (hro.out.lt t e.symm).1; omega)⟩
        go_roundg (3 - (p + 1))
        case rel => exact ⟨p + 1, nx + 1, co3, A3, _, by go_num, rfl, by omega, by omega, rfl, HR6, HB7⟩
        case measure => omega
       ·have qa : (bits BinOp.and IntKind.i64 x' (p : Int) != 0) = false := by
         have := HX3.out
         have : (p = 1 ∧ x' = 2) ∨ (p = 2 ∧ x' = 1) := by omega
         rcases this with ⟨rfl, rfl⟩ | ⟨rfl, rfl⟩ <;> rfl
        have HPT : Hid (vO x' o (p + 1) = vO x' o p) := by
         have : (p = 1 ∧ x' = 2) ∨ (p = 2 ∧ x' = 1) := by omega
         rcases this with ⟨rfl, rfl⟩ | ⟨rfl, rfl⟩ <;> rfl
        clear hyes
        go_wp2_with fail
        go_roundg (3 - (p + 1))
        case rel => exact ⟨p + 1, nx, cx, Ax, vs, by go_num, rfl, by omega, by omega, rfl, (by unfold Hid; rw [HPT.out]; exact hro.out), hbw⟩
        case measure => omega
    ·obtain rfl : k = no := by omega
     have hkk : decide (k < k) = false := by simp
     have HR5 : Hid (yW wr wr.heap.size Ax nx cx (xe m (i + 1))) := by
      have := hro.out.read
      rw [List.take_of_length_le (by rw [hra.out.len]; exact Nat.le_refl _)] at this
      exact this
     go_wp2_with fail
     go_roundg (m.length - (i + 1))
     case rel => exact ⟨i + 1, nx, cx, Ax, by go_num, rfl, by omega, rfl, HR5, hbl.out.trans (hbw.out.mono hzw)⟩
     case measure => omega
  ·obtain rfl : i = m.length := by omega
   have hii : decide (m.length < m.length) = false := by simp
   go_wp2_with fail
   go_ret2
   exact ⟨.inr ⟨HE.out, Ao, no, co, rfl, hra⟩, hbl⟩
end
end Go.Proofs.YtkkobemhbicjgaaGreatDoor
