import Derived.Test.YtkkobemhbicjgaaGreatDoorD36
import Derived.Test.YtkkobemhbicjgaaGreatDoorD37
import Derived.Test.YtkkobemhbicjgaaGreatDoorD26
import Derived.Test.YtkkobemhbicjgaaGreatDoorD32
import Derived.Test.YtkkobemhbicjgaaGreatDoorD15
set_option maxRecDepth 100000
set_option maxHeartbeats 32000000
namespace Go.Proofs.YtkkobemhbicjgaaGreatDoor
open Go.RowKit
structure PvM (w : World) (nb : Nat) (An Ad As : Option Addr) (nn cn nd cd cs : Nat) (ns : List Nd) (ds : List Dv) (m : List Int) (wr : World) : Prop where
 n : LwN w nb An nn cn ns Ad nd cd ds wr
 s : Sl wr wr.heap.size 1 As nd cs (intsV m)
theorem PvM.later {w : World} {nb : Nat} {An Ad As : Option Addr} {nn cn nd cd cs : Nat} {ns : List Nd} {ds : List Dv} {m : List Int} {wr wr' : World} (h : PvM w nb An Ad As nn cn nd cd cs ns ds m wr) (hb : Below wr.heap.size wr wr') : PvM w nb An Ad As nn cn nd cd cs ns ds m wr' :=
 ⟨h.n.later hb, (h.s.below hb (Nat.le_refl _)).more hb.size⟩
theorem PvM.mem {w : World} {nb : Nat} {An Ad As : Option Addr} {nn cn nd cd cs : Nat} {ns : List Nd} {ds : List Dv} {m : List Int} {wr : World} (h : PvM w nb An Ad As nn cn nd cd cs ns ds m wr) (hn : (∀ x ∈ ns, x.name.size ≤ 9223372036854775807) ∧ ∀ x ∈ ds, x.name.size ≤ 9223372036854775807) :
 HzMem wr An Ad As none none nn cn nd cd nd cs 0 0 0 0 ns ds m [] [] :=
 ⟨h.n.hn.1, h.n.hd.1, h.s, Sl.nil _ _ _, Sl.nil _ _ _, h.n.la, hn.1, hn.2⟩
structure PvK (w wb : World) (nb : Nat) (An Ad As : Option Addr) (nn cn nd cd cs : Nat) (ns : List Nd) (ds : List Dv) (m : List Int) (L : List (TypeId × Array Value)) (ra : Nat) (RA : Array Value) (wr : World) : Prop where
 k : PvM w nb An Ad As nn cn nd cd cs ns ds m wr
 x : Bxs wb L wr
 r : Blk wr ra 47 RA
theorem PvK.later {w wb : World} {nb : Nat} {An Ad As : Option Addr} {nn cn nd cd cs : Nat} {ns : List Nd} {ds : List Dv} {m : List Int} {L : List (TypeId × Array Value)} {ra : Nat} {RA : Array Value} {wr wr' : World} (h : PvK w wb nb An Ad As nn cn nd cd cs ns ds m L ra RA wr) (hb : Below wr.heap.size wr wr') : PvK w wb nb An Ad As nn cn nd cd cs ns ds m L ra RA wr' :=
 ⟨h.k.later hb, h.x.later hb, h.r.below hb h.r.lt⟩
def PvR (M : World → Prop) (ds : List Dv) (m : List Int) (n gk : Nat) (iv bv : Value) (wr : World) : Prop :=
 ∃ (k : Nat) (z : Int), iv = .int .i64 k ∧ bv = .int .i64 z ∧ k ≤ n ∧ gk = n - k ∧ Hid (z = -1 ∨ ∃ (i : Nat) (x : Dv), z = i ∧ ds[i]? = some x ∧ x.kind = 4 ∧ x.comp = 0 ∧ m[i]? = some 1) ∧ Hid (M wr)
theorem St5.below {w wr : World} {x : Nat} {a b d e f : Value} (h : Below w.heap.size w wr) (hx : w.heap.size ≤ x) : Below w.heap.size w (st5 wr x a b d e f) :=
 ((((h.setCell (p := ⟨x, 0, none⟩) hx a).setCell (p := ⟨x, 1, none⟩) hx b).setCell (p := ⟨x, 2, none⟩) hx d).setCell (p := ⟨x, 3, none⟩) hx e).setCell (p := ⟨x, 4, none⟩) hx f
theorem Blk.st5 {w : World} {x : Nat} {t : TypeId} {a0 b0 c0 d0 e0 : Value} (h : Blk w x t #[a0, b0, c0, d0, e0]) (a b c d e : Value) : Blk (Go.Proofs.YtkkobemhbicjgaaGreatDoor.st5 w x a b c d e) x t #[a, b, c, d, e] := ((((h.set 0 a).set 1 b).set 2 c).set 3 d).set 4 e
theorem dead_len {n : Nat} {O : List Fn} {cv : Int} {D : Bool} (hn : O.length = n) (h : O = [] ↔ liveB cv = false) (hD : D = (bits BinOp.and IntKind.i64 cv 1 == 0)) : n = 0 ↔ D = true := by
 subst hn
 rw [List.length_eq_zero_iff, h, hD]
 unfold liveB
 generalize (bits BinOp.and IntKind.i64 cv 1 == 0) = b
 cases b <;> decide
theorem walk_CheckerProves (w : World) (hl : Laid w) (A : Option Addr) (n c : Nat) (zs : List Int) (hs : Sl w w.heap.size 1 A n c (intsV zs)) (_hz : ∀ z ∈ zs, (Lit.int .i64 z).wf = true) :
 Calls Tryz.prog 5 #[.slice A n c] w fun e w' => e = .returned (.bool true) ∧ Below w.heap.size w w' := by
 have hnm := hs.le
 have HL := Lib.hid hl; have HS := Lib.hid hs
 clear hl hs _hz
 have HF := Lib.hid (few_any A n c w (by omega))
 rcases hf : decide (n ≤ 400) with _ | _
 ·rw [hf] at HF
  clear hf
  go_enter Tryz.func5, Tryz.ntmps5
  go_wp2_with fail
  refine HF.out.mono ?_
  rintro e w1 ⟨rfl, rfl⟩
  go_wp2_with fail
  refine (awake_any w HL.out).mono ?_
  rintro e w1 ⟨rfl, hb⟩
  go_wp2_with fail
  go_ret
  exact ⟨rfl, hb⟩
 rw [hf] at HF
 clear hf
 go_enter Tryz.func5, Tryz.ntmps5
 go_wp2_with fail
 refine HF.out.mono ?_
 rintro e w1 ⟨rfl, rfl⟩
 go_wp2_with fail
 refine (new_any A n c w.heap.size zs w HS.out (Nat.le_refl _)).mono ?_
 rintro e w1 ⟨rfl, hd1, hb1, hs1⟩
 go_wp2_with fail
 refine (mknet_any w.heap.size 5 8 w1 hd1.out (by decide) (by decide)).mono ?_
 rintro e w2 ⟨An, nn, cn, ns, Ad, nd, cd, ds, rfl, hd2, hg2, hrn, hrd, hmade⟩
 have HMK := LwN.mk0 HL.out hb1.out hs1.out hd2.out hg2.out hrn.out hrd.out hmade.out
 have HNN := Lib.hid HMK.2.1; have HND := Lib.hid HMK.2.2
 have HN3 := Lib.hid HMK.1
 have HMA := Lib.hid hmade.out
 have hnd : nd ≤ 8 := by have := hmade.out.dm; rw [HND.out] at this; omega
 have hnd1 : 1 ≤ nd := by have := hmade.out.d1; rw [HND.out] at this; omega
 have hnn : nn ≤ 5 := by have := hmade.out.nm; rw [HNN.out] at this; omega
 have HNM := Lib.hid HMA.out.names
 have HCK := Lib.hid (HMA.out.check (by decide) (by decide))
 clear HMK hd1 hb1 hs1 hd2 hg2 hrn hrd hmade HS HF
 go_wp2_with fail
 generalize World.alloc _ _ = w3 at *
 obtain ⟨nb, hnb⟩ : ∃ nb, nb = w2.heap.size := ⟨_, rfl⟩
 rw [← hnb] at HN3 ⊢
 clear hnb
 refine (mkmasks_any w.heap.size An Ad nn cn nd cd 3 ds w3 HN3.out.dk HN3.out.hd (by omega) (by decide)).mono ?_
 rintro e w5 ⟨As, cs, m, rfl, hd5, hg5, hO5, hmb, hcn⟩
 have HN5 := Lib.hid (HN3.out.grown HL.out hg5.out hd5.out)
 have HX5 : Hid (SlX w5 w.heap.size 1 As nd cs (intsV m)) := SlX.of_own hO5.out (by have := HN3.out.bl.size; have := HN3.out.bx.lt; have := HN3.out.ge; omega)
 have HLS : Hid (m.length = nd) := hO5.out.len
 have HME : Hid (maskErr ns ds m = 0) := by unfold Hid maskErr; rw [if_neg (by rw [HCK.out]; simp), if_neg (by rw [HLS.out, HND.out]; simp), if_pos hmb.out]
 have HM5 : Hid (PvM w nb An Ad As nn cn nd cd cs ns ds m w5) := ⟨HN5.out, HX5.out.1⟩
 clear hd5 hg5 hO5 hmb hcn HN3 HN5 HX5
 have k1 := HM5.out.n.bx.cell 1
 have hn9 : nd ≤ 9223372036854775807 := by omega
 go_upto_region 8 with (fail)
 clear k1
 refine wp_loop_u2 [(5, 0), (0, 3), (1, 1), (23, 0), (0, 2), (20, 1), (70, 0)] 33 6 (nd) (PvR (PvM w nb An Ad As nn cn nd cd cs ns ds m) ds m nd) (by (try dsimp only [gt]); exact ⟨0, -1, rfl, rfl, Nat.zero_le _, rfl, Lib.hid (.inl rfl), HM5⟩) (by kernel_rfl) ?_
 intro u1 p33 p6 gk wr a hrel ha J1 K1 hJ1 hK1
 dsimp only [relaxR, Go.Proofs.YtkkobemhbicjgaaGreatDoor.v2, Nat.reduceAdd] at ha
 subst ha
 clear HM5
 obtain ⟨k, z, rfl, rfl, hk, rfl, hz, hM⟩ := hrel
 have HZ := Lib.hid hz.out; have HM := Lib.hid hM.out
 clear hz hM
 by_cases hkl : k < nd
 ·have q0 : decide (k < nd) = true := by simpa using hkl
  obtain ⟨bd, od, xx, hAd, hbd, hx, hc⟩ := HM.out.n.hd.1.at (fun _ => rfl) (by decide) hkl
  obtain ⟨nm, kd, xa, xb, co⟩ := xx
  obtain ⟨bs, os, y, hAs, hbs, hy, hcy⟩ := HM.out.s.at1 hkl
  have HAD := Lib.hid hAd; have HAS := Lib.hid hAs
  have HXI : Hid (ds[k]? = some ⟨nm, kd, xa, xb, co⟩) := hx
  have HYI : Hid (m[k]? = some y) := hy
  have HYC : Hid (∀ W, Below wr.heap.size wr W → W.cell? ⟨bs, os + k, none⟩ = some (.int .i64 y)) := fun W hb => keep_cell hb hcy
  clear hAd hAs hbd hbs hx hy hcy
  have c0 : wr.cell? ⟨bd, od + k * 5, none⟩ = some (.string nm) := hc 0 _ rfl
  have c1 : wr.cell? ⟨bd, od + k * 5 + 1, none⟩ = some (.int .i64 kd) := hc 1 _ rfl
  have c2 : wr.cell? ⟨bd, od + k * 5 + 2, none⟩ = some (.int .i64 xa) := hc 2 _ rfl
  have c3 : wr.cell? ⟨bd, od + k * 5 + 3, none⟩ = some (.int .i64 xb) := hc 3 _ rfl
  have c4 : wr.cell? ⟨bd, od + k * 5 + 4, none⟩ = some (.int .i64 co) := hc 4 _ rfl
  clear hc
  rw [HAD.out, HAS.out]
  go_upto_region 10 with (fail)
  clear c0 c1 c2 c3 c4 q0
  have HBL : Hid (Below wr.heap.size wr (wr.alloc (.cells #[.string nm, .int .i64 kd, .int .i64 xa, .int .i64 xb, .int .i64 co] 57))) := (Below.refl _ _).alloc (Nat.le_refl _) _
  have HBX := Lib.hid (Blk.new wr 57 #[.string nm, .int .i64 kd, .int .i64 xa, .int .i64 xb, .int .i64 co])
  have HMn := Lib.hid (HM.out.later HBL.out)
  have hcy := HYC.out _ HBL.out
  clear HM HBL HYC
  generalize World.alloc wr _ = X at *
  obtain ⟨xb1, hxb1⟩ : ∃ x, x = wr.heap.size := ⟨_, rfl⟩
  rw [← hxb1] at HBX ⊢
  clear hxb1
  have d1 := HBX.out.cell 1; have d4 := HBX.out.cell 4
  obtain ⟨U1, hU1⟩ : ∃ U, U = (kd == 4) := ⟨_, rfl⟩
  obtain ⟨U2, hU2⟩ : ∃ U, U = (y == 1) := ⟨_, rfl⟩
  obtain ⟨U3, hU3⟩ : ∃ U, U = (co == 0) := ⟨_, rfl⟩
  have HZT : Hid (U1 = true → U2 = true → U3 = true → ((k : Int) = -1 ∨ ∃ (i : Nat) (x : Dv), (k : Int) = i ∧ ds[i]? = some x ∧ x.kind = 4 ∧ x.comp = 0 ∧ m[i]? = some 1)) := by
   intro h1 h2 h3
   rw [hU1, beq_iff_eq] at h1; rw [hU2, beq_iff_eq] at h2; rw [hU3, beq_iff_eq] at h3
   exact .inr ⟨k, _, rfl, HXI.out, h1, h3, by rw [HYI.out, h2]⟩
  have u1 := hU1.symm; have u2 := hU2.symm; have u3 := hU3.symm
  clear hU1 hU2 hU3
  have hkk : IntKind.i64.wrap ((k : Int) + 1) = (k : Int) + 1 := IntWalk.i64_in _ (by omega)
  rcases U1 with _ | _ <;> rcases U2 with _ | _ <;> rcases U3 with _ | _
  all_goals
   go_wp2_with fail
   rw [← HAD.out, ← HAS.out]
   refine Handed.intro (nd - (k + 1)) (by omega) (hJ1 _ _ _ (LpI2.back 33 6 ?_ (by kernel_rfl)))
   dsimp only [gt]
   exact ⟨k + 1, _, by go_num, rfl, by omega, rfl, by first | exact Lib.hid (HZT.out (by trivial) (by trivial) (by trivial)) | exact HZ, HMn⟩
 have q0 : decide (k < nd) = false := by simpa using hkl
 clear hkl
 rcases HZ.out with hz | ⟨i, x, hz, hx, hk4, hc0, hm1⟩
 ·subst hz
  go_wp2_with fail
  clear q0
  refine (awake_any wr HM.out.n.la).mono ?_
  rintro e w9 ⟨rfl, hb⟩
  go_wp2_with fail
  go_ret
  exact ⟨rfl, HM.out.n.bl.trans (hb.mono HM.out.n.bl.size)⟩
 subst hz
 have HXI := Lib.hid hx; have HK4 := Lib.hid hk4; have HC0 := Lib.hid hc0; have HM1 := Lib.hid hm1
 clear hk4 hc0 hm1
 have hin : i < nd := by have := (List.getElem?_eq_some_iff.1 hx).1; rw [HND.out] at this; exact this
 obtain ⟨bd, od, x', hAd, hbd, hx', hc⟩ := HM.out.n.hd.1.at (fun _ => rfl) (by decide) hin
 obtain rfl : x' = x := by rw [hx] at hx'; injection hx' with h; exact h.symm
 have HAD := Lib.hid hAd
 have c2 : wr.cell? ⟨bd, od + i * 5 + 2, none⟩ = some (.int .i64 x'.a) := hc 2 _ rfl
 have k1 : wr.cell? ⟨nb, 1, none⟩ = some (.slice (some ⟨bd, od, none⟩) nd cd) := by rw [← HAD.out]; exact HM.out.n.bx.cell 1
 clear hAd hbd hx hx' hc HZ
 rename Dv => x
 have q1 : decide ((i : Int) < 0) = false := by simp
 have HB : Hid (Bxs wr [(43, #[.int .i64 5, .int .i64 0, .int .i64 x.a, .int .i64 0, .int .i64 0, .int .i64 2, .int .i64 i, .int .i64 0, .int .i64 0, .int .i64 0]), (41, #[.string ⟨#[80]⟩, .slice (some ⟨wr.heap.size, 0, none⟩) 2 2])] ((wr.alloc (.cells #[.int .i64 5, .int .i64 0, .int .i64 x.a, .int .i64 0, .int .i64 0, .int .i64 2, .int .i64 i, .int .i64 0, .int .i64 0, .int .i64 0] 43)).alloc (.cells #[.string ⟨#[80]⟩, .slice (some ⟨wr.heap.size, 0, none⟩) 2 2] 41))) := ((Bxs.nil wr).add rfl 43 #[.int .i64 5, .int .i64 0, .int .i64 x.a, .int .i64 0, .int .i64 0, .int .i64 2, .int .i64 i, .int .i64 0, .int .i64 0, .int .i64 0]).add (by simp) 41 #[.string ⟨#[80]⟩, .slice (some ⟨wr.heap.size, 0, none⟩) 2 2]
 go_upto_region 17 with (fail)
 clear c2 k1 q0 q1
 have HM7 := Lib.hid (HM.out.later HB.out.l)
 clear HM
 generalize World.alloc (World.alloc wr _) _ = w7 at *
 have HTL : Hid (∀ W, Bxs wr [(43, #[.int .i64 5, .int .i64 0, .int .i64 x.a, .int .i64 0, .int .i64 0, .int .i64 2, .int .i64 i, .int .i64 0, .int .i64 0, .int .i64 0]), (41, #[.string ⟨#[80]⟩, .slice (some ⟨wr.heap.size, 0, none⟩) 2 2])] W → Sl W W.heap.size 5 (some ⟨wr.heap.size, 0 + 1 * 5, none⟩) 1 1 (([⟨2, i, 0, 0, 0⟩] : List Sp).flatMap Sp.cells)) := fun W h => by
  have h2 : Sl W W.heap.size 5 (some ⟨wr.heap.size, 0, none⟩) 2 2 (([⟨5, 0, x.a, 0, 0⟩, ⟨2, i, 0, 0, 0⟩] : List Sp).flatMap Sp.cells) := h.b0.sl rfl rfl (by decide)
  exact h2.dropK (f := Sp.cells) (fun _ => rfl) (by decide) (k := 1) (by decide)
 have HD8 : Hid (ds.length ≤ 8) := by have := HND.out; unfold Hid; omega
 have HVX : Hid (0 ≤ x.a ∧ x.a < ns.length) := (NetOk.of (maskErr_net HME.out).1).a x (List.mem_of_getElem? HXI.out)
 have HVA : Hid (∀ x' ∈ ([⟨5, 0, x.a, 0, 0⟩, ⟨2, i, 0, 0, 0⟩] : List Sp), spErr ns.length ds.length x' = 0) := by
  intro x' hx'
  simp only [List.mem_cons, List.not_mem_nil, or_false] at hx'
  rcases hx' with rfl | rfl
  ·exact sp_prove HVX.out.1 HVX.out.2
  ·exact sp_move (by have := HND.out; omega) (.inr rfl)
 have HVB : Hid (∀ x' ∈ ([⟨2, i, 0, 0, 0⟩] : List Sp), spErr ns.length ds.length x' = 0) := by
  intro x' hx'
  simp only [List.mem_cons, List.not_mem_nil, or_false] at hx'
  rcases hx' with rfl
  exact sp_move (by have := HND.out; omega) (.inr rfl)
 have HEA : Hid (chErr ns ds m 0 [] [] ⟨#[80]⟩ [⟨5, 0, x.a, 0, 0⟩, ⟨2, i, 0, 0, 0⟩] = 0) := ch_made HME.out (by decide) ⟨by simp, by simp, List.Pairwise.nil⟩ rfl (by decide) (by simp) HVA.out
 have HEB : Hid (chErr ns ds m 0 [] [] ⟨#[80]⟩ [⟨2, i, 0, 0, 0⟩] = 0) := ch_made HME.out (by decide) ⟨by simp, by simp, List.Pairwise.nil⟩ rfl (by decide) (by simp) HVB.out
 have HPC := Lib.hid (prove_close HD8.out HME.out HXI.out HK4.out HC0.out HM1.out)
 have HRB : Hid ((chRun ns ds 0 0 [] ⟨m, [], []⟩ [⟨2, i, 0, 0, 0⟩]).e = 0) := (close_only HD8.out HME.out HXI.out HK4.out HM1.out).1
 have HNB := Lib.hid (close_only HD8.out HME.out HXI.out HK4.out HM1.out).2
 have k0 := HM7.out.n.bx.cell 0; have k1 := HM7.out.n.bx.cell 1
 have p0 := HB.out.b1.cell 0; have p1 := HB.out.b1.cell 1
 go_wp2_with fail
 clear k0 k1 p0 p1
 refine (chRun_any An Ad As none none (some ⟨wr.heap.size, 0, none⟩) nn cn nd cd nd cs 0 0 0 0 2 2 ns ds m [] [] 0 ⟨#[80]⟩ [⟨5, 0, x.a, 0, 0⟩, ⟨2, i, 0, 0, 0⟩] w7 ⟨HM7.out.mem HNM.out, HB.out.b0.sl rfl rfl (by decide), by decide⟩).mono ?_
 intro e w8 hpost
 obtain ⟨A1, A2, A3, A4, n1, c1, n2, c2, n3, c3, n4, c4, rfl, hR, hb8⟩ := hpost.okay HEA.out HPC.out.1
 have HN1 : Hid ((chRun ns ds 0 0 [] ⟨m, [], []⟩ [⟨5, 0, x.a, 0, 0⟩, ⟨2, i, 0, 0, 0⟩]).o.length = n1) := hR.out.o.len (fun _ => rfl) (by decide)
 have HM8 := Lib.hid (HM7.out.later hb8.out)
 have HB8 := Lib.hid (HB.out.later hb8.out)
 clear hpost hR hb8 HM7 HB
 go_upto_region 18 with (fail)
 have HK9 : Hid (PvK w wr nb An Ad As nn cn nd cd cs ns ds m [(43, #[.int .i64 5, .int .i64 0, .int .i64 x.a, .int .i64 0, .int .i64 0, .int .i64 2, .int .i64 i, .int .i64 0, .int .i64 0, .int .i64 0]), (41, #[.string ⟨#[80]⟩, .slice (some ⟨wr.heap.size, 0, none⟩) 2 2])] w8.heap.size #[.slice A1 n1 c1, .slice A2 n2 c2, .int .i64 0, .slice A3 n3 c3, .slice A4 n4 c4] (w8.alloc (.cells #[.slice A1 n1 c1, .slice A2 n2 c2, .int .i64 0, .slice A3 n3 c3, .slice A4 n4 c4] 47))) := by
  obtain ⟨ra, hra⟩ : ∃ x, x = w8.heap.size := ⟨_, rfl⟩
  exact ⟨HM8.out.later ((Below.refl _ _).alloc (Nat.le_refl _) _), HB8.out.later ((Below.refl _ _).alloc (Nat.le_refl _) _), Blk.new w8 _ _⟩
 clear HM8 HB8
 generalize World.alloc w8 _ = w9 at *
 obtain ⟨ra, hra⟩ : ∃ x, x = w8.heap.size := ⟨_, rfl⟩
 rw [← hra] at HK9 ⊢
 clear hra
 refine wp_region_J (S := fun W' => PvK w wr nb An Ad As nn cn nd cd cs ns ds m [(43, #[.int .i64 5, .int .i64 0, .int .i64 x.a, .int .i64 0, .int .i64 0, .int .i64 2, .int .i64 i, .int .i64 0, .int .i64 0, .int .i64 0]), (41, #[.string ⟨#[80]⟩, .slice (some ⟨wr.heap.size, 0, none⟩) 2 2])] ra #[.slice A1 n1 c1, .slice A2 n2 c2, .int .i64 0, .slice A3 n3 c3, .slice A4 n4 c4] W') (J := []) (by kernel_rfl) ?_ (fun hHeld => ?_)
 ·exact HK9.out.later (Below.refl _ _).drew
 try dsimp only at hHeld
 refine wpAnyJ_takeL (i := 0) (d := some 79) (v := ?_) (mf 14 1) (by kernel_rfl) rfl rfl (by kernel_rfl) (by kernel_rfl) (by kernel_rfl) (by kernel_rfl) (by kernel_rfl) (fun _ _ _ h => h) (Or.inl ⟨by rfl, ?_⟩) hHeld ?_
 rotate_left
 ·(intro w hSw; (try dsimp only at hSw); have k0 := hSw.k.n.bx.cell 0; have k1 := hSw.k.n.bx.cell 1; go_simp; try with_reducible rfl)
 try simp only [Act.put, sA, sB, sC]
 refine tk 1 80 (mf 14 2) hHeld ?_
 refine tk 2 81 (mf 14 3) hHeld ?_
 refine tk 3 82 (mf 14 4) hHeld ?_
 refine wpAnyJ_takeL (i := 4) (d := some 83) (v := ?_) (mf 14 5) (by kernel_rfl) rfl rfl (by kernel_rfl) (by kernel_rfl) (by kernel_rfl) (by kernel_rfl) (by kernel_rfl) (fun _ _ _ h => h) (Or.inl ⟨by rfl, ?_⟩) hHeld ?_
 rotate_left
 ·(intro w hSw; (try dsimp only at hSw); have p1 := hSw.x.b1.cell 1; go_simp; try with_reducible rfl)
 try simp only [Act.put, sA, sB, sC]
 refine tk 5 84 (mf 14 6) hHeld ?_
 refine tk 6 85 (mf 14 7) hHeld ?_
 refine wpAnyJ_twoL (i := 7) (k := 11) (mf 14 8) #[tt, tt, tt, tt, tt, tt, tt, ff, ff, ff, ff, tt, ff, ff] (by kernel_rfl) (by kernel_rfl) (by kernel_rfl) rfl rfl (fun K hK => ?_) (fun K hK => ?_)
 focus
  (go_simp; refine (chRun_fre An Ad As none none (some ⟨wr.heap.size, 0 + 1 * 5, none⟩) nn cn nd cd nd cs 0 0 0 0 1 1 ns ds m [] [] 0 ⟨#[80]⟩ [⟨2, i, 0, 0, 0⟩] w9.drew ⟨hHeld.k.mem HNM.out, HTL.out _ hHeld.x, by decide⟩).mono ?_; intro e wh hpost; obtain ⟨B1, B2, B3, B4, m1, e1, m2, e2, m3, e3, m4, e4, rfl, hR, hH, hbb⟩ := hpost.okay HEB.out HRB.out; have HQ := Lib.hid hR.out; have HHI := Lib.hid hH.out; have HBh := Lib.hid hbb.out; clear hpost hR hH hbb; go_simp)
  refine hK.out _ _ (fun _ => ?_) (fun hHeld' => ?_)
  ·exact hHeld.later HBh.out
  replace hHeld := hHeld' rfl
  clear hHeld' hK K
  try dsimp only at hHeld
  have HBA : Hid (Below w9.heap.size w9 wh) := (Below.refl w9.heap.size w9).drew.trans HBh.out
  refine tk 8 78 (mf 14 9) hHeld ?_
  refine tk 9 87 (mf 14 10) hHeld ?_
  refine tk 10 88 (mf 14 11) hHeld ?_
  refine wpAnyJ_oneL (k := 11) (mf 14 12) (by kernel_rfl) (by kernel_rfl) rfl (fun K hK => ?_)
  go_simp
  refine hK.out _ _ (fun _ => ?_) (fun hHeld' => ?_)
  ·exact hHeld.later ((Below.refl _ _).alloc (Nat.le_refl _) (.cells #[.slice none 0 0, .slice none 0 0, .int .i64 0, .slice none 0 0, .slice none 0 0] 47))
  replace hHeld := hHeld' rfl
  clear hHeld' hK K
  try dsimp only at hHeld
  have HXN : Hid (Blk (wh.alloc (.cells #[.slice none 0 0, .slice none 0 0, .int .i64 0, .slice none 0 0, .slice none 0 0] 47)) wh.heap.size 47 #[.slice none 0 0, .slice none 0 0, .int .i64 0, .slice none 0 0, .slice none 0 0]) := Blk.new wh _ _
  have HDX : Hid (Below wh.heap.size wh (wh.alloc (.cells #[.slice none 0 0, .slice none 0 0, .int .i64 0, .slice none 0 0, .slice none 0 0] 47))) := ((Below.refl _ _).alloc (Nat.le_refl _) _)
  generalize World.alloc wh _ = wx at *
  obtain ⟨rb, hrb⟩ : ∃ x, x = wh.heap.size := ⟨_, rfl⟩
  have HX : Hid (Blk wx rb 47 #[.slice none 0 0, .slice none 0 0, .int .i64 0, .slice none 0 0, .slice none 0 0]) := by rw [hrb]; exact HXN.out
  have HRG : Hid (wh.heap.size ≤ rb) := by unfold Hid; rw [hrb]; exact Nat.le_refl _
  try rw [← hrb]
  clear hrb HXN
  have z0 := HX.out.cell 0; have z1 := HX.out.cell 1; have z2 := HX.out.cell 2; have z3 := HX.out.cell 3; have z4 := HX.out.cell 4; have y0 := HX.out.frozen 0; have y1 := HX.out.frozen 1; have y2 := HX.out.frozen 2; have y3 := HX.out.frozen 3; have y4 := HX.out.frozen 4
  have HBZ : Hid (Below wh.heap.size wh (st5 wx rb (.slice B1 m1 e1) (.slice B2 m2 e2) (.int .i64 0) (.slice B3 m3 e3) (.slice B4 m4 e4))) := St5.below HDX.out HRG.out
  refine wpAnyJ_oneL (k := 12) (mf 14 13) (by kernel_rfl) (by kernel_rfl) rfl (fun K hK => ?_)
  go_simp
  refine hK.out _ _ (fun _ => ?_) (fun hHeld' => ?_)
  ·exact HK9.out.later (HBA.out.trans (HBZ.out.mono HBA.out.size))
  replace hHeld := hHeld' rfl
  clear hHeld' hK K
  try dsimp only at hHeld
  refine tk 13 14 (mf 14 14) hHeld ?_
  refine wpAnyJ_done (by kernel_rfl) ?_ _
  have HQE := Lib.hid (HQ.out.later8 HBZ.out)
  have HGE := Lib.hid (HX.out.st5 (.slice B1 m1 e1) (.slice B2 m2 e2) (.int .i64 0) (.slice B3 m3 e3) (.slice B4 m4 e4))
  have HKE := Lib.hid (HK9.out.later (HBA.out.trans (HBZ.out.mono HBA.out.size)))
  clear HBZ HQ HX HBA HDX HRG HHI HBh
  clear z0 z1 z2 z3 z4 y0 y1 y2 y3 y4 hHeld
  unfold st5 at HKE HGE HQE
  generalize World.setCell (World.setCell (World.setCell (World.setCell (World.setCell wx _ _) _ _) _ _) _ _) _ _ = wz at *
 rotate_left 1
 focus
  go_simp
  refine hK.out _ _ (fun _ => ?_) (fun hHeld' => ?_)
  ·exact HK9.out.later ((Below.refl w9.heap.size w9).alloc (Nat.le_refl _) (.cells #[.slice none 0 0, .slice none 0 0, .int .i64 0, .slice none 0 0, .slice none 0 0] 47)).drew
  replace hHeld := hHeld' rfl
  clear hHeld' hK K
  try dsimp only at hHeld
  have HXN : Hid (Blk (w9.alloc (.cells #[.slice none 0 0, .slice none 0 0, .int .i64 0, .slice none 0 0, .slice none 0 0] 47)).drew w9.heap.size 47 #[.slice none 0 0, .slice none 0 0, .int .i64 0, .slice none 0 0, .slice none 0 0]) := Blk.new w9 _ _
  have HDX : Hid (Below w9.heap.size w9 (w9.alloc (.cells #[.slice none 0 0, .slice none 0 0, .int .i64 0, .slice none 0 0, .slice none 0 0] 47)).drew) := ((Below.refl _ _).alloc (Nat.le_refl _) _).drew
  generalize World.drew (World.alloc w9 _) = wx at *
  obtain ⟨rb, hrb⟩ : ∃ x, x = w9.heap.size := ⟨_, rfl⟩
  have HX : Hid (Blk wx rb 47 #[.slice none 0 0, .slice none 0 0, .int .i64 0, .slice none 0 0, .slice none 0 0]) := by rw [hrb]; exact HXN.out
  have HRG : Hid (w9.heap.size ≤ rb) := by unfold Hid; rw [hrb]; exact Nat.le_refl _
  try rw [← hrb]
  clear hrb HXN
  refine wpAnyJ_oneL (k := 7) #[tt, tt, tt, tt, tt, tt, tt, tt, ff, ff, ff, tt, ff, ff] (by kernel_rfl) (by kernel_rfl) rfl (fun K hK => ?_)
  (go_simp; refine (chRun_fre An Ad As none none (some ⟨wr.heap.size, 0 + 1 * 5, none⟩) nn cn nd cd nd cs 0 0 0 0 1 1 ns ds m [] [] 0 ⟨#[80]⟩ [⟨2, i, 0, 0, 0⟩] wx ⟨hHeld.k.mem HNM.out, HTL.out _ hHeld.x, by decide⟩).mono ?_; intro e wh hpost; obtain ⟨B1, B2, B3, B4, m1, e1, m2, e2, m3, e3, m4, e4, rfl, hR, hH, hbb⟩ := hpost.okay HEB.out HRB.out; have HQ := Lib.hid hR.out; have HHI := Lib.hid hH.out; have HBh := Lib.hid hbb.out; clear hpost hR hH hbb; go_simp)
  refine hK.out _ _ (fun _ => ?_) (fun hHeld' => ?_)
  ·exact hHeld.later HBh.out
  replace hHeld := hHeld' rfl
  clear hHeld' hK K
  try dsimp only at hHeld
  have HXH := Lib.hid (HX.out.below HBh.out HX.out.lt)
  have z0 := HXH.out.cell 0; have z1 := HXH.out.cell 1; have z2 := HXH.out.cell 2; have z3 := HXH.out.cell 3; have z4 := HXH.out.cell 4; have y0 := HXH.out.frozen 0; have y1 := HXH.out.frozen 1; have y2 := HXH.out.frozen 2; have y3 := HXH.out.frozen 3; have y4 := HXH.out.frozen 4
  refine tk 8 78 #[tt, tt, tt, tt, tt, tt, tt, tt, tt, ff, ff, tt, ff, ff] hHeld ?_
  refine tk 9 87 #[tt, tt, tt, tt, tt, tt, tt, tt, tt, tt, ff, tt, ff, ff] hHeld ?_
  refine tk 10 88 (mf 14 12) hHeld ?_
  have HBA : Hid (Below w9.heap.size w9 wh) := HDX.out.trans (HBh.out.mono HDX.out.size)
  have HBZ : Hid (Below w9.heap.size w9 (st5 wh rb (.slice B1 m1 e1) (.slice B2 m2 e2) (.int .i64 0) (.slice B3 m3 e3) (.slice B4 m4 e4))) := St5.below HBA.out HRG.out
  refine wpAnyJ_oneL (k := 12) (mf 14 13) (by kernel_rfl) (by kernel_rfl) rfl (fun K hK => ?_)
  go_simp
  refine hK.out _ _ (fun _ => ?_) (fun hHeld' => ?_)
  ·exact HK9.out.later HBZ.out
  replace hHeld := hHeld' rfl
  clear hHeld' hK K
  try dsimp only at hHeld
  refine tk 13 14 (mf 14 14) hHeld ?_
  refine wpAnyJ_done (by kernel_rfl) ?_ _
  have HQE := Lib.hid (HQ.out.off5 HHI.out HX.out.lt (a := .slice B1 m1 e1) (b := .slice B2 m2 e2) (d := .int .i64 0) (e := .slice B3 m3 e3) (f := .slice B4 m4 e4))
  have HGE := Lib.hid (HXH.out.st5 (.slice B1 m1 e1) (.slice B2 m2 e2) (.int .i64 0) (.slice B3 m3 e3) (.slice B4 m4 e4))
  have HKE := Lib.hid (HK9.out.later HBZ.out)
  clear HQ HX HXH HBA HBZ HDX HRG HHI HBh
  clear z0 z1 z2 z3 z4 y0 y1 y2 y3 y4 hHeld
  unfold st5 at HKE HGE HQE
  generalize World.setCell (World.setCell (World.setCell (World.setCell (World.setCell wh _ _) _ _) _ _) _ _) _ _ = wz at *
 rotate_left 1
 all_goals
  have HKF := Lib.hid (fillL_state HME.out (p := 2) (.inr rfl))
  have HHC : Hid (Calls Tryz.prog 24 #[.slice As nd cs] wz (IntsPost wz (fillL m 2))) := by
   have h := rhighest_any As cs wz.heap.size m wz (by rw [HLS.out]; exact HKE.out.k.s) (Nat.le_refl _) (by rw [HLS.out]; omega)
   rw [HLS.out] at h; exact h
  go_wp2_with fail
  refine HHC.out.mono ?_
  rintro e wq ⟨Ah, ch, rfl, hO, hb⟩
  have HFN : Hid ((fillL m 2).length = nd) := by unfold Hid; rw [fillL_len, HLS.out]
  have HKQ := Lib.hid (HKE.out.later hb.out)
  have HGQ := Lib.hid (HGE.out.below hb.out HGE.out.lt)
  have HOQ := Lib.hid hO.out.sl
  have HM1L : Hid ((chRun ns ds 0 0 [] ⟨m, [], []⟩ [⟨2, i, 0, 0, 0⟩]).o.length = m1) := HQE.out.o.len (fun _ => rfl) (by decide)
  clear hO hb HKE HGE HQE HHC
  rw [HFN.out] at HOQ ⊢
  have k0 := HKQ.out.k.n.bx.cell 0; have k1 := HKQ.out.k.n.bx.cell 1
  go_wp2_with fail
  clear k0 k1
  have HNO := Lib.hid (NetOk.of (maskErr_net HME.out).1)
  refine (rcols_any An Ad Ah nn cn nd cd nd ch wq.heap.size wq.heap.size wq.heap.size ns ds (fillL m 2) wq HKQ.out.k.n.hn.1 HKQ.out.k.n.hd.1 HOQ.out (Nat.le_refl _) (Nat.le_refl _) (Nat.le_refl _) HNM.out.1 HNM.out.2 (by omega) (fun _ => ⟨Nat.le_refl _, by have := HNO.out.e; rwa [HNN.out] at this, HNO.out.ne⟩) (fun _ => ⟨by have := HNO.out.a; rwa [HNN.out] at this, HNO.out.k⟩)).mono ?_
  rintro e wc ⟨hbc, ⟨h1, -⟩ | ⟨-, C, cl, rfl, hOC, hIC⟩⟩
  ·exact absurd HKF.out h1
  have HKC := Lib.hid (HKQ.out.later hbc.out)
  have HGC := Lib.hid (HGQ.out.below hbc.out HGQ.out.lt)
  have HCO := Lib.hid hOC.out.sl
  have HIC := Lib.hid hIC.out
  clear hbc hOC hIC HKQ HGQ HOQ
  obtain ⟨v, hv⟩ := Int.eq_ofNat_of_zero_le HVX.out.1
  have HV := Lib.hid hv
  have hvn : v < nn := by have := HVX.out.2; rw [hv, HNN.out] at this; omega
  clear hv
  obtain ⟨bc, oc, cv, hC, hbC, hcv, hcc⟩ := HCO.out.at1 hvn
  have HC := Lib.hid hC
  have HCV : Hid (lvB (colsOf ns.length ds (fillL m 2)) x.a = liveB cv) := by unfold Hid lvB; rw [HNN.out, colsOf_eq HIC.out, HV.out, List.getD_eq_getElem?_getD]; simp [hcv]
  clear hC hbC hcv
  obtain ⟨D, hD⟩ : ∃ D, D = (bits BinOp.and IntKind.i64 cv 1 == 0) := ⟨_, rfl⟩
  have HLD : Hid (n1 = 0 ↔ D = true) := dead_len HN1.out (by have h := HPC.out.2; rw [HCV.out] at h; exact h) hD
  have hd := hD.symm
  clear hD HCV HIC
  have e0 : ((n1 : Int) == 0) = D := by
   have h := HLD.out
   rcases D with _ | _
   ·simp only [Bool.false_eq_true, iff_false] at h
    simpa using h
   ·simp only [iff_true] at h
    simp [h]
  have h1m : 0 < m1 := by
   rw [← HM1L.out]
   exact List.length_pos_iff.2 HNB.out
  rw [HC.out, HV.out]
  have r0 := HKC.out.r.c0
  have t0 := HGC.out.c0
  rcases D with _ | _
  all_goals
   go_wp2_with fail
   refine (awake_any wc HKC.out.k.n.la).mono ?_
   rintro e wy ⟨rfl, hb⟩
   go_wp2_with fail
   go_ret
   exact ⟨rfl, HKC.out.k.n.bl.trans (hb.mono HKC.out.k.n.bl.size)⟩
end Go.Proofs.YtkkobemhbicjgaaGreatDoor
