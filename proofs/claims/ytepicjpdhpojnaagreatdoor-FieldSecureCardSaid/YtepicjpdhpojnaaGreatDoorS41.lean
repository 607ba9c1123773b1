import Derived.Test.YtepicjpdhpojnaaGreatDoorS40
import Derived.Test.YtepicjpdhpojnaaGreatDoorS09
import Derived.Test.YtepicjpdhpojnaaGreatDoorS23
set_option maxRecDepth 100000
set_option maxHeartbeats 16000000
namespace Go.Proofs.YtepicjpdhpojnaaGreatDoor
open Go.RowKit
def FzR1 (w : World) (nb : Nat) (An Ad Az : Option Addr) (cn nd cd nz cz : Nat) (ns : List Nd) (ds : List Dv) (z : List Int) (gk : Nat) (kv iv : Value) (wr : World) : Prop :=
 ∃ (i c cl ck nl mk : Nat) (As Al Ak : Option Addr) (s : List Int) (K : List Lk), kv = .slice Ak mk ck ∧ iv = .int .i64 i ∧ i ≤ nd ∧ gk = nd - i ∧ Hid (FzC w nb An Ad As Al Az Ak cn nd cd c nl cl nz cz mk ck #[.slice As nd c, .slice Al nl cl, .slice none 0 0] ns ds s K K z wr) ∧ Hid (fdErr ns ds ⟨s, K, []⟩ = 0) ∧ Hid (KpI ds i K)
def NewK (K : List Lk) (g : Nat) (An Ad : Option Addr) (cn nd cd : Nat) (ns : List Nd) (ds : List Dv) (v : Value) (E : Int) (w : World) : Prop :=
 ∃ (As Al At : Option Addr) (n c nl cl nt ct : Nat), v = .agg #[.slice As n c, .slice Al nl cl, .slice At nt ct] ∧ (E = 0 → ∃ F : Fd, FdX g An Ad As Al At 6 cn nd cd n c nl cl nt ct ns ds F w ∧ fdErr ns ds F = 0 ∧ ∀ x ∈ K, x ∈ F.ls)
section
variable {K : List Lk} {g : Nat} {An Ad : Option Addr} {cn nd cd : Nat} {ns : List Nd} {ds : List Dv} {v : Value} {E : Int} {w0 w w' : World}
theorem NewK.later (h : NewK K g An Ad cn nd cd ns ds v E w) (hb : Below w.heap.size w w') : NewK K g An Ad cn nd cd ns ds v E w' := by
 obtain ⟨As, Al, At, n, c, nl, cl, nt, ct, h1, h2⟩ := h
 exact ⟨As, Al, At, n, c, nl, cl, nt, ct, h1, fun e => by obtain ⟨F, h3, h4⟩ := h2 e; exact ⟨F, h3.later hb, h4⟩⟩
theorem NewK.grown (h : NewK K g An Ad cn nd cd ns ds v E w) (h0 : Laid w0) (hge : w0.heap.size ≤ g) (hd : DeckAt w' g) (hg : w.grownBy w' (some g)) : NewK K g An Ad cn nd cd ns ds v E w' := by
 obtain ⟨As, Al, At, n, c, nl, cl, nt, ct, h1, h2⟩ := h
 exact ⟨As, Al, At, n, c, nl, cl, nt, ct, h1, fun e => by obtain ⟨F, h3, h4⟩ := h2 e; exact ⟨F, h3.grown h0 hge hd hg, h4⟩⟩
theorem NewK.out3 {x : Nat} {t : TypeId} {A1 A2 A3 B1 B2 B3 : Option Addr} {n1 c1 n2 c2 n3 c3 m1 d1 m2 d2 m3 d3 : Nat} (h : NewK K g An Ad cn nd cd ns ds v E w) (hx : Blk w x t #[.slice B1 m1 d1, .slice B2 m2 d2, .slice B3 m3 d3]) (hg : g < x) (h0 : Laid w0) (hl : w0.heap.size ≤ x) : NewK K g An Ad cn nd cd ns ds v E (((w.setCell ⟨x, 0, none⟩ (.slice A1 n1 c1)).setCell ⟨x, 1, none⟩ (.slice A2 n2 c2)).setCell ⟨x, 2, none⟩ (.slice A3 n3 c3)) := by
 obtain ⟨As, Al, At, n, c, nl, cl, nt, ct, h1, h2⟩ := h
 exact ⟨As, Al, At, n, c, nl, cl, nt, ct, h1, fun e => by obtain ⟨F, h3, h4⟩ := h2 e; exact ⟨F, h3.out3 hx hg h0 hl, h4⟩⟩
end
theorem NewK.of {K : List Lk} {w0 : World} {nb : Nat} {An Ad As Al At : Option Addr} {cn nd cd n c nl cl nt ct : Nat} {ns : List Nd} {ds : List Dv} {F : Fd} {k d p q : Int} {e : Ending} {w w' : World} (h : FlM w0 nb An Ad As Al At cn nd cd n c nl cl nt ct ns ds F w) (hm : ∀ x ∈ K, x ∈ F.ls) (hkey : ∀ x ∈ K, 900 ≤ x.key) (hq : q < 801) (hr : StepPost w ns ds F k d p q e w') :
 Below w.heap.size w w' ∧ ∃ (v : Value) (E : Int), e = .returned (.tuple #[v, .int .i64 E]) ∧ NewK K w0.heap.size An Ad cn nd cd ns ds v E w' := by
 obtain ⟨A1, A2, A3, n1, c1, n2, c2, n3, c3, h1, h2, hb⟩ := hr.any
 refine ⟨hb.out, _, _, h1, A1, A2, A3, n1, c1, n2, c2, n3, c3, rfl, fun e => ?_⟩
 obtain ⟨i1, i2, i3⟩ := h2.out e
 exact ⟨_, h.step hb.out i1 i2 i3, evTo_ok e, kept_stays hm hkey hq⟩
theorem FsM.grown {w : World} {nb : Nat} {An Ad As Al At : Option Addr} {cn nd cd n c nl cl nt ct : Nat} {ns : List Nd} {ds : List Dv} {F : Fd} {Az Am : Option Addr} {nz cz nm cm : Nat} {z : List Int} {ls : List Lk} {wr wr' : World} (h : FsM w nb An Ad As Al At cn nd cd n c nl cl nt ct ns ds F Az Am nz cz nm cm z ls wr) (hl : Laid w) (hg : wr.grownBy wr' (some w.heap.size)) (hd : DeckAt wr' w.heap.size) : FsM w nb An Ad As Al At cn nd cd n c nl cl nt ct ns ds F Az Am nz cz nm cm z ls wr' :=
 ⟨h.m.grown hl hg hd, h.z.grown hg, h.k.grown hg⟩
theorem FsM.out3 {w : World} {nb : Nat} {An Ad As Al At : Option Addr} {cn nd cd n c nl cl nt ct : Nat} {ns : List Nd} {ds : List Dv} {F : Fd} {Az Am : Option Addr} {nz cz nm cm : Nat} {z : List Int} {ls : List Lk} {wr : World} {x : Nat} {t : TypeId} {A1 A2 A3 B1 B2 B3 : Option Addr} {n1 c1 n2 c2 n3 c3 m1 d1 m2 d2 m3 d3 : Nat} (h : FsM w nb An Ad As Al At cn nd cd n c nl cl nt ct ns ds F Az Am nz cz nm cm z ls wr) (hl : Laid w) (hx : Blk wr x t #[.slice B1 m1 d1, .slice B2 m2 d2, .slice B3 m3 d3]) (hxb : nb + 2 ≤ x) :
 FsM w nb An Ad As Al At cn nd cd n c nl cl nt ct ns ds F Az Am nz cz nm cm z ls (((wr.setCell ⟨x, 0, none⟩ (.slice A1 n1 c1)).setCell ⟨x, 1, none⟩ (.slice A2 n2 c2)).setCell ⟨x, 2, none⟩ (.slice A3 n3 c3)) := by
 have hge := h.m.ge
 exact ⟨⟨h.m.x.out3 hx (by omega) hl (by omega), ((h.m.bn.far (p := ⟨x, 0, none⟩) (by simp; omega) _).far (p := ⟨x, 1, none⟩) (by simp; omega) _).far (p := ⟨x, 2, none⟩) (by simp; omega) _, ((h.m.bf.far (p := ⟨x, 0, none⟩) (by simp; omega) _).far (p := ⟨x, 1, none⟩) (by simp; omega) _).far (p := ⟨x, 2, none⟩) (by simp; omega) _, ((h.m.bl.setCell (by simp; omega) _).setCell (by simp; omega) _).setCell (by simp; omega) _, hge⟩, h.z.apart3 hx (nosl_int _), h.k.apart3 hx (nosl_lk _)⟩
theorem FsM.take {w : World} {nb : Nat} {An Ad As Al At A1 A2 A3 : Option Addr} {cn nd cd n c nl cl nt ct n1 c1 n2 c2 n3 c3 : Nat} {ns : List Nd} {ds : List Dv} {F F' : Fd} {Az Am : Option Addr} {nz cz nm cm : Nat} {z : List Int} {ls : List Lk} {wr : World} (h : FsM w nb An Ad As Al At cn nd cd n c nl cl nt ct ns ds F Az Am nz cz nm cm z ls wr) (hl : Laid w) (hy : FdX w.heap.size An Ad A1 A2 A3 6 cn nd cd n1 c1 n2 c2 n3 c3 ns ds F' wr) :
 FsM w nb An Ad A1 A2 A3 cn nd cd n1 c1 n2 c2 n3 c3 ns ds F' Az Am nz cz nm cm z ls (((wr.setCell ⟨nb + 1, 0, none⟩ (.slice A1 n1 c1)).setCell ⟨nb + 1, 1, none⟩ (.slice A2 n2 c2)).setCell ⟨nb + 1, 2, none⟩ (.slice A3 n3 c3)) :=
 ⟨h.m.take hl hy, h.z.apart3 h.m.bf (nosl_int _), h.k.apart3 h.m.bf (nosl_lk _)⟩
structure FzB (M : World → Prop) (K : List Lk) (g : Nat) (An Ad : Option Addr) (cn nd cd : Nat) (ns : List Nd) (ds : List Dv) (l : Array Bool) (γ : StGh) (W : World) : Prop where
 m : M W
 k : flag l 5 = true → NewK K g An Ad cn nd cd ns ds γ.1 γ.2.1 W
 z : flag l 10 = false → γ.2.2 = #[.slice none 0 0, .slice none 0 0, .slice none 0 0]
 f : flag l 10 = true → γ.1 = .agg γ.2.2
 o : flag l 5 = false → flag l 6 = false ∧ flag l 7 = false ∧ flag l 8 = false ∧ flag l 10 = false
 o9 : flag l 9 = false → flag l 10 = false
section
variable {M : World → Prop} {K : List Lk} {g : Nat} {An Ad : Option Addr} {cn nd cd : Nat} {ns : List Nd} {ds : List Dv} {l : Array Bool} {γ : StGh} {W W' : World}
theorem FzB.keep {i : Nat} (h : FzB M K g An Ad cn nd cd ns ds l γ W) (h9s : i < l.size) (h5 : i ≠ 5) (h10 : i ≠ 10) (ho : flag l 5 = true ∨ (i ≠ 6 ∧ i ≠ 7 ∧ i ≠ 8)) (hm : M W') (hn : ∀ v E, NewK K g An Ad cn nd cd ns ds v E W → NewK K g An Ad cn nd cd ns ds v E W') : FzB M K g An Ad cn nd cd ns ds (l.setIfInBounds i true) γ W' := by
 refine ⟨hm, fun e => hn _ _ (h.k ?_), fun e => h.z ?_, fun e => h.f ?_, fun e => ?_, fun e => ?_⟩
 ·rwa [flag_ne (Ne.symm h5)] at e
 ·rwa [flag_ne (Ne.symm h10)] at e
 ·rwa [flag_ne (Ne.symm h10)] at e
 ·rw [flag_ne (Ne.symm h5)] at e
  rcases ho with ho | ⟨h6, h7, h8⟩
  ·rw [e] at ho; cases ho
  ·rw [flag_ne (Ne.symm h6), flag_ne (Ne.symm h7), flag_ne (Ne.symm h8), flag_ne (Ne.symm h10)]
   exact h.o e
 ·rw [flag_ne (Ne.symm h10)]
  by_cases h9 : i = 9
  ·subst h9; rw [flag_same h9s] at e; cases e
  ·rw [flag_ne (Ne.symm h9)] at e; exact h.o9 e
theorem FzB.five {v : Value} {E : Int} (hB : FzB M K g An Ad cn nd cd ns ds l γ W) (hs : 5 < l.size) (hf : flag l 5 = false) (hm : M W') (hN : NewK K g An Ad cn nd cd ns ds v E W') : FzB M K g An Ad cn nd cd ns ds (l.setIfInBounds 5 true) (v, E, γ.2.2) W' :=
 ⟨hm, fun _ => hN, fun e => hB.z (by rwa [flag_ne (by decide)] at e), fun e => absurd e (by rw [flag_ne (by decide), (hB.o hf).2.2.2]; decide), fun e => absurd e (by rw [flag_same hs]; decide), fun e => (flag_ne (by decide)).trans (hB.o9 ((flag_ne (by decide)).symm.trans e))⟩
theorem FzB.ten {u0 u1 u2 : Value} (_hB : FzB M K g An Ad cn nd cd ns ds l γ W) (hs : 10 < l.size) (h5 : flag l 5 = true) (h9 : flag l 9 = true) (hv : γ.1 = .agg #[u0, u1, u2]) (hm : M W') (hN : NewK K g An Ad cn nd cd ns ds γ.1 γ.2.1 W') : FzB M K g An Ad cn nd cd ns ds (l.setIfInBounds 10 true) (γ.1, γ.2.1, #[u0, u1, u2]) W' :=
 ⟨hm, fun _ => hN, fun e => absurd e (by rw [flag_same hs]; decide), fun _ => hv, fun e => absurd e (by rw [flag_ne (by decide), h5]; decide), fun e => absurd e (by rw [flag_ne (by decide), h9]; decide)⟩
end
def FzR2 (w : World) (nb : Nat) (An Ad Az Ak : Option Addr) (cn nd cd nz cz mk ck : Nat) (ns : List Nd) (ds : List Dv) (z : List Int) (K : List Lk) (gk : Nat) (iv : Value) (wr : World) : Prop :=
 ∃ (i n c nl cl nt ct : Nat) (As Al At : Option Addr) (F : Fd), iv = .int .i64 i ∧ i ≤ 25 ∧ gk = 25 - i ∧ Hid (FsM w nb An Ad As Al At cn nd cd n c nl cl nt ct ns ds F Az Ak nz cz mk ck z K wr) ∧ Hid (fdErr ns ds F = 0) ∧ Hid (∀ x ∈ K, x ∈ F.ls)
theorem walk_FieldSecure (w : World) (hl : Laid w) (A : Option Addr) (n c : Nat) (zs : List Int) (hs : Sl w w.heap.size 1 A n c (intsV zs)) (_hz : ∀ z ∈ zs, (Lit.int .i64 z).wf = true) :
 Calls Tryz.prog 3 #[.slice A n c] w fun e w' => e = .returned (.bool true) ∧ Below w.heap.size w w' := by
 have hnm := hs.le
 have HL0 := Lib.hid hl; have HS0 := Lib.hid hs
 clear hl hs _hz
 go_enter Tryz.func3, Tryz.ntmps3
 go_wp2_with fail
 refine (awake_any w HL0.out).mono ?_
 rintro e w1 ⟨rfl, hb1⟩
 have HB0 := Lib.hid hb1
 have HL := Lib.hid (HL0.out.below hb1 (Nat.le_refl _))
 have HS := Lib.hid (HS0.out.below hb1 (Nat.le_refl _))
 have hsz := hb1.size
 clear hb1 HL0 HS0
 have HF := Lib.hid (few_any A n c w1 (by omega))
 rcases hf : decide (n ≤ 400) with _ | _
 ·rw [hf] at HF
  clear hf
  go_wp2_with fail
  refine HF.out.mono ?_
  rintro e w2 ⟨rfl, rfl⟩
  go_wp2_with fail
  refine (awake_any w1 HL.out).mono ?_
  rintro e w2 ⟨rfl, hb⟩
  go_wp2_with fail
  go_ret
  exact ⟨rfl, HB0.out.trans (hb.mono hsz)⟩
 rw [hf] at HF
 clear hf
 go_wp2_with fail
 refine HF.out.mono ?_
 rintro e w2 ⟨rfl, rfl⟩
 clear HF
 go_wp2_with fail
 refine (new_any A n c w.heap.size zs w1 HS.out hsz).mono ?_
 rintro e w2 ⟨rfl, hd2, hb2, hs2⟩
 go_wp2_with fail
 refine (tie_any w1.heap.size w2 hd2.out).mono ?_
 rintro e w3 ⟨An, cn, ns, Ad, nd, cd, ds, As, c0, ss, rfl, hd3, hg3, hrn, hrd, hrs, htv⟩
 have hz2 := hs2.out
 have hnd9 : 9 ≤ nd ∧ nd ≤ 10 := by
  have h1 := htv.out.2.2.pos
  have h2 : ds.length = nd := (Sl.of_own hrd.out).len (fun _ => rfl) (by decide)
  omega
 have HF4 := Lib.hid (tie_state htv.out.1 htv.out.2.1 htv.out.2.2)
 have HLA3 : Hid (Laid w3) := (HL.out.below hb2.out (Nat.le_refl _)).grown HL.out hg3.out (Nat.le_refl _)
 have HX3 := Lib.hid (FdX.tie (w := w2) (by omega) HLA3.out hd3.out hrn.out hrd.out hrs.out htv.out.1 htv.out.2.2)
 have HM4 := Lib.hid (FlM.mk0 hb2.out hs2.out hg3.out HX3.out)
 clear hd2 hb2 hs2 hg3 HX3 hd3 hrn hrd hrs htv HS HLA3 hz2
 go_upto_region 6 with (fail)
 obtain ⟨nb, hnb⟩ : ∃ x, x = w3.heap.size := ⟨_, rfl⟩
 rw [← hnb] at HM4 ⊢
 clear hnb
 generalize World.alloc (World.alloc w3 _) _ = w4 at *
 have hcn := HM4.out.ln
 have k0 : w4.cell? ⟨nb, 0, none⟩ = some (.slice An 6 cn) := HM4.out.bn.cell 0
 have k1 : w4.cell? ⟨nb, 1, none⟩ = some (.slice Ad nd cd) := HM4.out.bn.cell 1
 go_wp2_with fail
 clear k0 k1
 refine (mkzone_any w1.heap.size An Ad 6 cn nd cd w4 HM4.out.x.dk (by decide) (by decide)).mono ?_
 rintro e w5 ⟨Az, nz, cz, z, rfl, hd5, hg5, hO5, hz5⟩
 have HM5 := Lib.hid (HM4.out.grown HL.out hg5.out hd5.out)
 have HZ5 : Hid (SlX w5 w1.heap.size 1 Az nz cz (intsV z)) := SlX.of_own hO5.out HM4.out.x.dk.lt
 have HLZ := Lib.hid hO5.out.len
 have HZR := Lib.hid hz5.out
 clear hd5 hg5 hO5 hz5 HM4
 have hck := (stateErr_len (fdErr_zero HF4.out).1).1
 have HOK := Lib.hid (NetOk.of hck)
 have HZE : Hid (zoneErr ns ds z = 0) := zone_fine hck (by rw [HLZ.out]; exact HZR.out.1) (by rw [hcn.1]; exact HZR.out.2.2)
 have HZM : Hid (∀ v ∈ z, 0 ≤ v ∧ v < 6) := fun v hv => ris_mem HZR.out.2.2 v hv
 clear hck
 have HC5 : Hid (FzC w1 nb An Ad As none Az none cn nd cd c0 0 0 nz cz 0 0 #[.slice As nd c0, .slice none 0 0, .slice none 0 0] ns ds ss [] [] z w5) :=
  ⟨HM5.out.x, HZ5.out, World.ownsRow_nil _ _ _ _, HM5.out.bn, HM5.out.bf, (fun b e => by cases e), ⟨In.of_sl HM5.out.x.hn.1 (by decide) (Nat.le_refl _), In.of_sl HM5.out.x.hd.1 (by omega) (Nat.le_refl _), In.of_sl HM5.out.x.hs.1 (by omega) (Nat.le_refl _), (fun b off e => by cases e), In.of_sl HZ5.out.1 HZR.out.1 (Nat.le_refl _)⟩, HM5.out.bl, HM5.out.ge⟩
 have HKP0 : Hid (KpI ds 0 []) := ⟨Nat.le_refl _, fun k hk => by cases hk⟩
 have hled := HM5.out.x.hd.1.le
 clear HM5 HZ5
 have k1 : w5.cell? ⟨nb, 1, none⟩ = some (.slice Ad nd cd) := HC5.out.bn.cell 1
 go_wp2_with fail
 clear k1
 refine wp_loop_u2 [(1, 0), (0, 1), (4, 0), (0, 2), (5, 1), (29, 0), (0, 3), (60, 1), (44, 0)] 8 45 (nd) (FzR1 w1 nb An Ad Az cn nd cd nz cz ns ds z) (by (try dsimp only [gt]); exact ⟨0, c0, 0, 0, 0, 0, As, none, none, ss, [], rfl, rfl, Nat.zero_le _, rfl, HC5, HF4, HKP0⟩) (by kernel_rfl) ?_
 intro u1 p8 p45 gk wr a hrel ha J1 K1 hJ1 hK1
 dsimp only [relaxR, Go.Proofs.YtepicjpdhpojnaaGreatDoor.v2, Nat.reduceAdd] at ha
 subst ha
 clear HC5 HKP0 HF4 w5 hcn
 obtain ⟨i, c, cl, ck, nl, mk, As, Al, Ak, s, K, rfl, rfl, hi, rfl, HC, HF, HKP⟩ := hrel
 have hlns := HC.out.x.fdm.ln
 by_cases hlt : i < nd; rotate_left
 ·have hii : decide ((i : Int) < (nd : Int)) = false := by simp; omega
  have hii2 : decide (i < nd) = false := by simp; omega
  have hns6 : ns.length = 6 := hlns.1
  have HSE := Lib.hid (sec_err (F := ⟨s, K, []⟩) HF.out (fdErr_zero HF.out).2.1 HZE.out).2
  have HKY : Hid (∀ x ∈ K, 900 ≤ x.key) := fun x hx => by obtain ⟨j, -, -, h3, -⟩ := HKP.out.2 x hx; omega
  have k0 : wr.cell? ⟨nb, 0, none⟩ = some (.slice An 6 cn) := HC.out.bn.cell 0
  have k1 : wr.cell? ⟨nb, 1, none⟩ = some (.slice Ad nd cd) := HC.out.bn.cell 1
  have hnz6 := HZR.out.2.1
  go_wp2_with fail
  clear k0 k1 hii hii2
  have hss := rSecure16_any An Ad Ak Az 6 cn nd cd mk ck nz cz ns ds K z wr HC.out.x.la HC.out.x.hn.1 HC.out.x.hd.1 HC.out.k.sl HC.out.z.1 HC.out.x.sn HC.out.x.sd (by omega) (by omega)
  unfold SidesPost at hss
  rw [HSE.out] at hss
  refine hss.mono ?_
  rintro e w6 ⟨rfl, hb6⟩
  clear hss
  have HC6 := Lib.hid (HC.out.later hb6.out)
  have HBE6 := Lib.hid HC6.out.bl
  clear hb6 HC
  obtain ⟨ib, hib⟩ : ∃ ib, ib = isoB ds (gpsL ds K) z := ⟨_, rfl⟩
  obtain ⟨sb, hsb⟩ : ∃ sb, sb = sidesB ns ds K z := ⟨_, rfl⟩
  rw [← hib, ← hsb]
  rcases ib with _ | _
  ·clear hib hsb
   go_wp2_with fail
   go_ret
   exact ⟨rfl, HB0.out.trans (HBE6.out.mono hsz)⟩
  rcases sb with _ | _
  ·clear hib hsb
   go_wp2_with fail
   go_ret
   exact ⟨rfl, HB0.out.trans (HBE6.out.mono hsz)⟩
  have HISO : Hid (isoB ds (gpsL ds K) z = true) := hib.symm
  have HSID : Hid (sidesB ns ds K z = true) := hsb.symm
  clear hib hsb HBE6
  have HS6 : Hid (FsM w1 nb An Ad As Al none cn nd cd nd c nl cl 0 0 ns ds ⟨s, K, []⟩ Az Ak nz cz mk ck z K w6) := ⟨⟨HC6.out.x, HC6.out.bn, HC6.out.bf, HC6.out.bl, HC6.out.ge⟩, HC6.out.z, SlX.of_own HC6.out.k (Nat.lt_succ_self _)⟩
  have HKK : Hid (∀ x ∈ K, x ∈ (⟨s, K, []⟩ : Fd).ls) := fun x hx => hx
  have HFZ0 : Hid (fdErr ns ds ⟨s, K, []⟩ = 0) := HF.out
  clear HC6 HF HKP
  go_wp2_with fail
  refine wp_loop_u1 [(1, 0), (0, 1), (13, 0), (0, 2), (3, 1), (99, 0), (29, 1)] 17 (25) (FzR2 w1 nb An Ad Az Ak cn nd cd nz cz mk ck ns ds z K) (by (try dsimp only [gt]); exact ⟨0, _, _, _, _, _, _, _, _, _, _, rfl, Nat.zero_le _, rfl, HS6, HFZ0, HKK⟩) (by kernel_rfl) ?_
  intro u2 p17 gk wq a hrel ha J2 K2 hJ2 hK2
  dsimp only [relaxR, Go.Proofs.YtepicjpdhpojnaaGreatDoor.v1, Nat.reduceAdd] at ha
  subst ha
  clear HS6 HFZ0 HKK w6
  clear hlns
  obtain ⟨t, n, c, nl, cl, nt, ct, As, Al, At, F, rfl, ht, rfl, HM, HFV, HKL⟩ := hrel
  by_cases hlt2 : t < 25; rotate_left
  ·have hii : decide ((t : Int) < 25) = false := by simp; omega
   have hii2 : decide (t < 25) = false := by simp; omega
   have HBE := Lib.hid HM.out.m.bl
   go_wp2_with fail
   go_ret
   exact ⟨rfl, HB0.out.trans (HBE.out.mono hsz)⟩
  have hge := HM.out.m.ge
  have hgb : w1.heap.size < nb + 2 := by omega
  have HMD := Lib.hid (HM.out.later (Below.refl _ _).drew)
  go_upto_region 31 with (fail)
  refine wp_region_phi (S := fun W' => Blk W' nb 30 #[.slice An 6 cn, .slice Ad nd cd] ∧ Blk W' (nb + 1) 35 #[.slice As n c, .slice Al nl cl, .slice At nt ct]) (J := []) (n := _) ((0, true) :: (1, true) :: (2, true) :: (3, true) :: []) ((11, true) :: []) (phiG [(4, []), (5, [4]), (6, [5]), (7, [5, 6]), (8, [5, 6]), (9, []), (10, [5, 7, 9])]) 7 #[true, true, true, true, false, false, false, false, false, false, false, false] #[true, true, true, true, true, true, true, true, true, true, true, false] (by as_aux_lemma => kernel_rfl) (by rfl) (base_cons (k := 4) (by go_simp; rfl) (base_cons (k := 6) (by go_simp; rfl) (base_cons (k := 3) (by go_simp; rfl) base_nil))) ?_ (fun _ _ _ _ _ h => h) (fun Q2 A hsz hbase hn2 hHeld => ?_)
  ·exact ⟨HMD.out.m.bn, HMD.out.m.bf⟩
  try dsimp only at hHeld
  obtain ⟨b4, b6, b3, -⟩ := hbase
  refine ⟨Phi1 A [(4, 131), (5, 132), (6, 126), (7, 133), (8, 134), (9, 18)] [(130, .agg #[.slice An 6 cn, .slice Ad nd cd]), (129, .pointer (some ⟨w1.heap.size, 0, none⟩)), (128, .agg #[.slice As n c, .slice Al nl cl, .slice At nt ct]), (127, .agg #[.slice An 6 cn, .slice Ad nd cd])] 12 (FzB (FsM w1 nb An Ad As Al At cn nd cd n c nl cl nt ct ns ds F Az Ak nz cz mk ck z K) K w1.heap.size An Ad cn nd cd ns ds) (StG (nb + 2)), ?_, ?_, ?_⟩
  ·refine ord_take (i := 0) (d := 127) (v := ?_) rfl rfl (wanted_none rfl) hHeld (fun ρ hρ w hSw => ?_) ?_
   rotate_left
   ·(have e4 := Eq.trans (hρ.tmp hsz 4 rfl) (lkp_base b4); clear hρ; (try dsimp only at hSw); have k0 := hSw.1.cell 0; have k1 := hSw.1.cell 1; clear hSw; go_simp; try with_reducible rfl)
   show wpOrd _ _ _ _ _ _ _ _
   refine ord_take (i := 1) (d := 128) (v := ?_) rfl rfl (wanted_none rfl) hHeld (fun ρ hρ w hSw => ?_) ?_
   rotate_left
   ·(have e6 := Eq.trans (hρ.tmp hsz 6 rfl) (miss1 rfl (lkp_base b6)); clear hρ; (try dsimp only at hSw); have k0 := hSw.2.cell 0; have k1 := hSw.2.cell 1; have k2 := hSw.2.cell 2; clear hSw; go_simp; try with_reducible rfl)
   show wpOrd _ _ _ _ _ _ _ _
   refine ord_move (i := 2) (d := 129) (v := ?_) rfl rfl rfl (wanted_none rfl) hHeld (fun ρ hρ => ?_) ?_
   rotate_left
   ·(have e3 := Eq.trans (hρ.tmp hsz 3 rfl) (miss1 rfl (miss1 rfl (lkp_base b3))); exact e3)
   show wpOrd _ _ _ _ _ _ _ _
   refine ord_take (i := 3) (d := 130) (v := ?_) rfl rfl (wanted_none rfl) hHeld (fun ρ hρ w hSw => ?_) ?_
   rotate_left
   ·(have e4 := Eq.trans (hρ.tmp hsz 4 rfl) (miss1 rfl (miss1 rfl (miss1 rfl (lkp_base b4)))); clear hρ; (try dsimp only at hSw); have k0 := hSw.1.cell 0; have k1 := hSw.1.cell 1; clear hSw; go_simp; try with_reducible rfl)
   show wpOrd _ _ _ _ _ _ _ _
   exact lat_pre (phi1_start (l := #[true, true, true, true, false, false, false, false, false, false, false, false]) ((undef, 0, #[.slice none 0 0, .slice none 0 0, .slice none 0 0]) : StGh) (by decide) rfl ⟨HMD.out, fun e => absurd e (by decide), fun _ => rfl, fun e => absurd e (by decide), fun _ => by decide, fun _ => by decide⟩)
  ·intro l i a w0 hg h
   obtain ⟨vs, γ, hl, rfl, hB, hG⟩ := h
   obtain ⟨hf, ds, hm, hds⟩ := phiG_out hg
   clear hg
   simp only [List.mem_cons, Prod.mk.injEq, List.not_mem_nil, or_false] at hm
   rcases hm with ⟨rfl, rfl⟩ | ⟨rfl, rfl⟩ | ⟨rfl, rfl⟩ | ⟨rfl, rfl⟩ | ⟨rfl, rfl⟩ | ⟨rfl, rfl⟩ | ⟨rfl, rfl⟩
   ·clear hds
    refine lat_call (d := 131) (vs := #[.pointer (some ⟨w1.heap.size, 0, none⟩), .agg #[.slice An 6 cn, .slice Ad nd cd]]) rfl rfl rfl rfl (fun ρ hρ => ?_) ?_ ?_
    ·(have e129 := Eq.trans (hρ.tmp hsz 129 rfl) ((slots_miss _ rfl (miss1 rfl lkp_hit))); have e130 := Eq.trans (hρ.tmp hsz 130 rfl) ((slots_miss _ rfl lkp_hit)); simp only [List.map_toArray, List.map_cons, List.map_nil, e129, e130])
    ·(intro w; go_simp)
    refine (event_any w1.heap.size An Ad 6 cn nd cd w0 hB.m.m.x.dk (by omega)).mono ?_
    rintro e w6 ⟨k, d, p, q, rfl, hq, hd6, hg6⟩
    refine ⟨_, rfl, fun _ => ⟨((hB.keep (i := 4) (by omega) (by decide) (by decide) (.inr (by decide)) (hB.m.grown HL.out hg6.out hd6.out) (fun v E h => h.grown HL.out (Nat.le_refl _) hd6.out hg6.out))).m.m.bn, ((hB.keep (i := 4) (by omega) (by decide) (by decide) (.inr (by decide)) (hB.m.grown HL.out hg6.out hd6.out) (fun v E h => h.grown HL.out (Nat.le_refl _) hd6.out hg6.out))).m.m.bf⟩, phi1_step (γ' := γ) (by decide) (by decide) hl (by decide) hf (hB.keep (i := 4) (by omega) (by decide) (by decide) (.inr (by decide)) (hB.m.grown HL.out hg6.out hd6.out) (fun v E h => h.grown HL.out (Nat.le_refl _) hd6.out hg6.out)) hG (fun j u _ _ h => h.grown hg6.out hgb) (⟨k, d, p, q, rfl, hq⟩)⟩
   ·have f4 : flag l 4 = true := hds 4 (by simp)
    have G4 := hG 4 f4 (by decide)
    clear hds
    obtain ⟨k, d, p, q, h4, hq⟩ := G4
    refine lat_call (d := 132) (vs := #[.agg #[.slice An 6 cn, .slice Ad nd cd], .agg #[.slice As n c, .slice Al nl cl, .slice At nt ct], .agg #[.int .i64 k, .int .i64 d, .int .i64 p, .int .i64 q]]) rfl rfl rfl rfl (fun ρ hρ => ?_) ?_ ?_
    ·(have e127 := Eq.trans (hρ.tmp hsz 127 rfl) ((slots_miss _ rfl (miss1 rfl (miss1 rfl (miss1 rfl lkp_hit))))); have e128 := Eq.trans (hρ.tmp hsz 128 rfl) ((slots_miss _ rfl (miss1 rfl (miss1 rfl lkp_hit)))); have e131 := Eq.trans (hρ.tmp hsz 131 rfl) ((slots_get (i := 4) f4 _ (by decide) (by decide)).trans h4); simp only [List.map_toArray, List.map_cons, List.map_nil, e127, e128, e131])
    ·(intro w; go_simp)
    refine (fstep_any An Ad As Al At 6 cn nd cd n c nl cl nt ct ns ds F k d p q w0 hB.m.m.x.fdm).mono ?_
    intro e w6 hr
    obtain ⟨hb6, v, E, rfl, hN⟩ := NewK.of hB.m.m HKL.out HKY.out hq hr
    refine ⟨_, rfl, fun _ => ⟨((hB.five (by omega) hf (hB.m.later hb6) hN)).m.m.bn, ((hB.five (by omega) hf (hB.m.later hb6) hN)).m.m.bf⟩, phi1_step (γ' := (v, E, γ.2.2)) (by decide) (by decide) hl (by decide) hf (hB.five (by omega) hf (hB.m.later hb6) hN) hG (fun j u hj _ h => (StG.step5 hf (hB.o hf) hj h).later hb6) (rfl)⟩
   ·have f5 : flag l 5 = true := hds 5 (by simp)
    have G5 := hG 5 f5 (by decide)
    clear hds
    have h5 : vs 5 = .tuple #[γ.1, .int .i64 γ.2.1] := G5
    refine lat_run (d := 126) (v := ?_) (w' := ?_) rfl rfl rfl (fun ρ hρ => ?_) ?_
    rotate_left 2
    ·(have e132 := Eq.trans (hρ.tmp hsz 132 rfl) ((slots_get (i := 5) f5 _ (by decide) (by decide)).trans h5); clear hρ; go_simp; first | with_reducible rfl | (constructor <;> with_reducible rfl))
    exact ⟨fun _ => ⟨((hB.keep (i := 6) (by omega) (by decide) (by decide) (.inl f5) hB.m (fun v E h => h))).m.m.bn, ((hB.keep (i := 6) (by omega) (by decide) (by decide) (.inl f5) hB.m (fun v E h => h))).m.m.bf⟩, phi1_step (γ' := γ) (by decide) (by decide) hl (by decide) hf (hB.keep (i := 6) (by omega) (by decide) (by decide) (.inl f5) hB.m (fun v E h => h)) hG (fun j u _ _ h => h) (rfl)⟩
   ·have f5 : flag l 5 = true := hds 5 (by simp)
    have f6 : flag l 6 = true := hds 6 (by simp)
    have G5 := hG 5 f5 (by decide)
    have G6 := hG 6 f6 (by decide)
    clear hds
    have h6 : vs 6 = .tuple #[γ.1, .int .i64 γ.2.1] := G6
    refine lat_run (d := 133) (v := ?_) (w' := ?_) rfl rfl rfl (fun ρ hρ => ?_) ?_
    rotate_left 2
    ·(have e126 := Eq.trans (hρ.tmp hsz 126 rfl) ((slots_get (i := 6) f6 _ (by decide) (by decide)).trans h6); clear hρ; go_simp; first | with_reducible rfl | (constructor <;> with_reducible rfl))
    exact ⟨fun _ => ⟨((hB.keep (i := 7) (by omega) (by decide) (by decide) (.inl f5) hB.m (fun v E h => h))).m.m.bn, ((hB.keep (i := 7) (by omega) (by decide) (by decide) (.inl f5) hB.m (fun v E h => h))).m.m.bf⟩, phi1_step (γ' := γ) (by decide) (by decide) hl (by decide) hf (hB.keep (i := 7) (by omega) (by decide) (by decide) (.inl f5) hB.m (fun v E h => h)) hG (fun j u _ _ h => h) (rfl)⟩
   ·have f5 : flag l 5 = true := hds 5 (by simp)
    have f6 : flag l 6 = true := hds 6 (by simp)
    have G5 := hG 5 f5 (by decide)
    have G6 := hG 6 f6 (by decide)
    clear hds
    have h6 : vs 6 = .tuple #[γ.1, .int .i64 γ.2.1] := G6
    refine lat_run (d := 134) (v := ?_) (w' := ?_) rfl rfl rfl (fun ρ hρ => ?_) ?_
    rotate_left 2
    ·(have e126 := Eq.trans (hρ.tmp hsz 126 rfl) ((slots_get (i := 6) f6 _ (by decide) (by decide)).trans h6); clear hρ; go_simp; first | with_reducible rfl | (constructor <;> with_reducible rfl))
    exact ⟨fun _ => ⟨((hB.keep (i := 8) (by omega) (by decide) (by decide) (.inl f5) hB.m (fun v E h => h))).m.m.bn, ((hB.keep (i := 8) (by omega) (by decide) (by decide) (.inl f5) hB.m (fun v E h => h))).m.m.bf⟩, phi1_step (γ' := γ) (by decide) (by decide) hl (by decide) hf (hB.keep (i := 8) (by omega) (by decide) (by decide) (.inl f5) hB.m (fun v E h => h)) hG (fun j u _ _ h => h) (rfl)⟩
   ·clear hds
    refine lat_run (d := 18) (v := ?_) (w' := ?_) rfl rfl rfl (fun ρ hρ => ?_) ?_
    rotate_left 2
    ·(skip; clear hρ; go_simp; first | with_reducible rfl | (constructor <;> with_reducible rfl))
    exact ⟨fun _ => ⟨((hB.keep (i := 9) (by omega) (by decide) (by decide) (.inr (by decide)) (hB.m.later ((Below.refl _ _).alloc (Nat.le_refl _) _)) (fun v E h => h.later ((Below.refl _ _).alloc (Nat.le_refl _) _)))).m.m.bn, ((hB.keep (i := 9) (by omega) (by decide) (by decide) (.inr (by decide)) (hB.m.later ((Below.refl _ _).alloc (Nat.le_refl _) _)) (fun v E h => h.later ((Below.refl _ _).alloc (Nat.le_refl _) _)))).m.m.bf⟩, phi1_step (γ' := γ) (by decide) (by decide) hl (by decide) hf (hB.keep (i := 9) (by omega) (by decide) (by decide) (.inr (by decide)) (hB.m.later ((Below.refl _ _).alloc (Nat.le_refl _) _)) (fun v E h => h.later ((Below.refl _ _).alloc (Nat.le_refl _) _))) hG (fun j u _ _ h => h.later ((Below.refl _ _).alloc (Nat.le_refl _) _)) (⟨w0.heap.size, rfl, by rw [hB.z (hB.o9 hf)]; exact Blk.new _ _ _, hB.m.m.bf.lt⟩)⟩
   ·have f5 : flag l 5 = true := hds 5 (by simp)
    have f7 : flag l 7 = true := hds 7 (by simp)
    have f9 : flag l 9 = true := hds 9 (by simp)
    have G5 := hG 5 f5 (by decide)
    have G7 := hG 7 f7 (by decide)
    have G9 := hG 9 f9 (by decide)
    clear hds
    obtain ⟨As2, Al2, At2, n2, c2, nl2, cl2, nt2, ct2, hv, hN2⟩ := hB.k f5
    obtain ⟨x, h9, hx, hxl⟩ := G9
    have h7 : vs 7 = .agg #[.slice As2 n2 c2, .slice Al2 nl2 cl2, .slice At2 nt2 ct2] := Eq.trans G7 hv
    rw [hB.z hf] at hx
    have k0 := hx.cell 0
    have k1 := hx.cell 1
    have k2 := hx.cell 2
    have z0 := hx.frozen 0
    have z1 := hx.frozen 1
    have z2 := hx.frozen 2
    clear hN2
    refine lat_store rfl rfl rfl (w' := ((w0.setCell ⟨x, 0, none⟩ (.slice As2 n2 c2)).setCell ⟨x, 1, none⟩ (.slice Al2 nl2 cl2)).setCell ⟨x, 2, none⟩ (.slice At2 nt2 ct2)) (fun ρ hρ => ?_) ?_
    ·(have e18 := Eq.trans (hρ.tmp hsz 18 rfl) ((slots_get (i := 9) f9 _ (by decide) (by decide)).trans h9); have e133 := Eq.trans (hρ.tmp hsz 133 rfl) ((slots_get (i := 7) f7 _ (by decide) (by decide)).trans h7); clear hρ; clear hv h7 h9 hG G5 G7; go_simp)
    clear k0 k1 k2 z0 z1 z2
    have hgx : w1.heap.size < x := by omega
    have hwx := Nat.le_of_lt hgx
    have hM3 : FsM w1 nb An Ad As Al At cn nd cd n c nl cl nt ct ns ds F Az Ak nz cz mk ck z K (((w0.setCell ⟨x, 0, none⟩ (.slice As2 n2 c2)).setCell ⟨x, 1, none⟩ (.slice Al2 nl2 cl2)).setCell ⟨x, 2, none⟩ (.slice At2 nt2 ct2)) := hB.m.out3 HL.out hx hxl
    have hN3 : NewK K w1.heap.size An Ad cn nd cd ns ds γ.1 γ.2.1 (((w0.setCell ⟨x, 0, none⟩ (.slice As2 n2 c2)).setCell ⟨x, 1, none⟩ (.slice Al2 nl2 cl2)).setCell ⟨x, 2, none⟩ (.slice At2 nt2 ct2)) := (hB.k f5).out3 hx hgx HL.out hwx
    have hB3 := hB.ten (by omega) f5 f9 hv hM3 hN3
    clear hM3 hN3
    exact ⟨fun _ => ⟨((hB3)).m.m.bn, ((hB3)).m.m.bf⟩, phi1_step0 (γ' := (γ.1, γ.2.1, #[.slice As2 n2 c2, .slice Al2 nl2 cl2, .slice At2 nt2 ct2])) (by decide) hl (hB3) hG (fun j _ _ h => StG.ten h9 hx hxl rfl h)⟩
  intro a w0 h
  obtain ⟨vs, γ, -, rfl, hB, hG⟩ := h
  show wpOrd _ _ _ _ _ _ (puts A ((131, vs 4) :: (132, vs 5) :: (126, vs 6) :: (133, vs 7) :: (134, vs 8) :: (18, vs 9) :: [(130, .agg #[.slice An 6 cn, .slice Ad nd cd]), (129, .pointer (some ⟨w1.heap.size, 0, none⟩)), (128, .agg #[.slice As n c, .slice Al nl cl, .slice At nt ct]), (127, .agg #[.slice An 6 cn, .slice Ad nd cd])])) _
  replace hHeld : (fun W' => Blk W' nb 30 #[.slice An 6 cn, .slice Ad nd cd] ∧ Blk W' (nb + 1) 35 #[.slice As n c, .slice Al nl cl, .slice At nt ct]) w0 := ⟨(hB).m.m.bn, (hB).m.m.bf⟩
  have h8 : vs 8 = .int .i64 γ.2.1 := hG 8 rfl (by decide)
  obtain ⟨x, h9, hx, hxl⟩ := hG 9 rfl (by decide)
  obtain ⟨As2, Al2, At2, n2, c2, nl2, cl2, nt2, ct2, hv, hN2⟩ := hB.k rfl
  have hzz : γ.2.2 = #[.slice As2 n2 c2, .slice Al2 nl2 cl2, .slice At2 nt2 ct2] := by have h1 := hB.f rfl; rw [hv] at h1; injection h1 with h1; exact h1.symm
  rw [hzz] at hx
  obtain ⟨v4, hv4⟩ : ∃ v, v = vs 4 := ⟨_, rfl⟩
  obtain ⟨v5, hv5⟩ : ∃ v, v = vs 5 := ⟨_, rfl⟩
  obtain ⟨v6, hv6⟩ : ∃ v, v = vs 6 := ⟨_, rfl⟩
  obtain ⟨v7, hv7⟩ : ∃ v, v = vs 7 := ⟨_, rfl⟩
  obtain ⟨E, hE⟩ : ∃ E, E = γ.2.1 := ⟨_, rfl⟩
  rw [← hE] at h8 hN2
  rw [h8, h9, ← hv4, ← hv5, ← hv6, ← hv7]
  clear h8 h9 hG hv4 hv5 hv6 hv7 hv hzz hE
  have HME := Lib.hid hB.m
  have HNE := Lib.hid hN2
  have HBX := Lib.hid hx
  clear hB hN2 hx vs
  show wpOrd _ _ _ _ _ _ _ _
  refine ord_take (i := 11) (d := 19) (v := ?_) rfl rfl (wanted_none rfl) hHeld (fun ρ hρ w hSw => ?_) ?_
  rotate_left
  ·(have e134 := Eq.trans (hρ.tmp hsz 134 rfl) (miss4 rfl rfl rfl rfl lkp_hit); clear hρ; (try dsimp only at hSw); go_simp; try with_reducible rfl)
  show wpOrd _ _ _ _ _ _ _ _
  refine ord_done hn2 ?_
  clear hHeld hn2 b4 b6 b3 hsz A Q2
  simp only [puts_nil, puts_cons, put_lit, set_1, set_0]
  clear HM HMD
  by_cases hE0 : E = 0
  ·subst hE0
   obtain ⟨F2, hX2, hF2, hK2⟩ := HNE.out rfl
   have HF9 := Lib.hid hF2
   have HK9 := Lib.hid hK2
   have HM9 := Lib.hid (HME.out.take HL.out hX2)
   have b0 := HBX.out.cell 0
   have b1 := HBX.out.cell 1
   have b2 := HBX.out.cell 2
   have d0 := HME.out.m.bf.cell 0
   have d1 := HME.out.m.bf.cell 1
   have d2 := HME.out.m.bf.cell 2
   have y0 := HME.out.m.bf.frozen 0
   have y1 := HME.out.m.bf.frozen 1
   have y2 := HME.out.m.bf.frozen 2
   clear hX2 hF2 hK2 HNE HBX HME HFV HKL
   go_upto_region 34 with (fail)
   clear b0 b1 b2 d0 d1 d2 y0 y1 y2
   generalize World.setCell (World.setCell (World.setCell w0 _ _) _ _) _ _ = w9 at *
   have HSR : Hid (secErr ns ds F2 K z = 0) := by unfold Hid secErr; rw [if_neg (by rw [HF9.out]; simp)]; exact HSE.out
   have k0 : w9.cell? ⟨nb, 0, none⟩ = some (.slice An 6 cn) := HM9.out.m.bn.cell 0
   have k1 : w9.cell? ⟨nb, 1, none⟩ = some (.slice Ad nd cd) := HM9.out.m.bn.cell 1
   have f0 := HM9.out.m.bf.cell 0
   have f1 := HM9.out.m.bf.cell 1
   have f2 := HM9.out.m.bf.cell 2
   go_wp2_with fail
   clear k0 k1 f0 f1 f2
   refine (Secure_any An Ad As2 Al2 At2 Ak Az 6 cn nd cd n2 c2 nl2 cl2 nt2 ct2 mk ck nz cz ns ds F2 K z true w9 HM9.out.m.x.fdm HM9.out.k.1 HM9.out.z.1 (by omega)).mono ?_
   rintro e wS ⟨⟨he, _⟩ | ⟨_, co, hco, rfl⟩, hbS⟩
   ·exact absurd HSR.out he
   have HMS := Lib.hid (HM9.out.later hbS.out)
   have HSB : Hid (secB ns ds F2 K z co true = true) := (kept_sec hns6 HF9.out HK9.out HSE.out HISO.out HSID.out HZM.out hco.out).2
   clear hbS hco HM9
   rw [HSB.out]
   go_wp2_with fail
   refine Handed.intro (25 - (t + 1)) (by omega) (hJ2 _ _ _ (LpI1.back 17 ?_ (by kernel_rfl)))
   dsimp only [gt]
   exact ⟨t + 1, n2, c2, nl2, cl2, nt2, ct2, As2, Al2, At2, F2, by go_num, by omega, rfl, HMS, HF9, HK9⟩
  ·have q0 : (E == 0) = false := by simpa using hE0
   clear hE0 HNE HBX
   go_upto_region 34 with (fail)
   have HSR : Hid (secErr ns ds F K z = 0) := by unfold Hid secErr; rw [if_neg (by rw [HFV.out]; simp)]; exact HSE.out
   have k0 : w0.cell? ⟨nb, 0, none⟩ = some (.slice An 6 cn) := HME.out.m.bn.cell 0
   have k1 : w0.cell? ⟨nb, 1, none⟩ = some (.slice Ad nd cd) := HME.out.m.bn.cell 1
   have f0 := HME.out.m.bf.cell 0
   have f1 := HME.out.m.bf.cell 1
   have f2 := HME.out.m.bf.cell 2
   go_wp2_with fail
   clear k0 k1 f0 f1 f2
   refine (Secure_any An Ad As Al At Ak Az 6 cn nd cd n c nl cl nt ct mk ck nz cz ns ds F K z true w0 HME.out.m.x.fdm HME.out.k.1 HME.out.z.1 (by omega)).mono ?_
   rintro e wS ⟨⟨he, _⟩ | ⟨_, co, hco, rfl⟩, hbS⟩
   ·exact absurd HSR.out he
   have HMS := Lib.hid (HME.out.later hbS.out)
   have HSB : Hid (secB ns ds F K z co true = true) := (kept_sec hns6 HFV.out HKL.out HSE.out HISO.out HSID.out HZM.out hco.out).2
   clear hbS hco HME
   rw [HSB.out]
   go_wp2_with fail
   refine Handed.intro (25 - (t + 1)) (by omega) (hJ2 _ _ _ (LpI1.back 17 ?_ (by kernel_rfl)))
   dsimp only [gt]
   exact ⟨t + 1, n, c, nl, cl, nt, ct, As, Al, At, F, by go_num, by omega, rfl, HMS, HFV, HKL⟩
 obtain ⟨b, off, x, hA, hb, hx, hc⟩ := HC.out.x.hd.1.at (fun _ => rfl) (by decide) hlt
 obtain ⟨nm, kd, xa, xb, co⟩ := x
 have HKD : Hid (kindOf ds (i : Int) = kd) := kindOf_at hx
 have c0 : wr.cell? ⟨b, off + i * 5, none⟩ = some (.string nm) := hc 0 _ rfl
 have c1 : wr.cell? ⟨b, off + i * 5 + 1, none⟩ = some (.int .i64 kd) := hc 1 _ rfl
 have c2 : wr.cell? ⟨b, off + i * 5 + 2, none⟩ = some (.int .i64 xa) := hc 2 _ rfl
 have c3 : wr.cell? ⟨b, off + i * 5 + 3, none⟩ = some (.int .i64 xb) := hc 3 _ rfl
 have c4 : wr.cell? ⟨b, off + i * 5 + 4, none⟩ = some (.int .i64 co) := hc 4 _ rfl
 subst hA
 clear hc hx
 go_upto_region 11 with (fail)
 clear c0 c1 c2 c3 c4 hb
 have HBK := Lib.hid (Blk.new wr 38 #[.string nm, .int .i64 kd, .int .i64 xa, .int .i64 xb, .int .i64 co])
 have HCN := Lib.hid (HC.out.later ((Below.refl _ wr).alloc (Nat.le_refl _) (.cells #[.string nm, .int .i64 kd, .int .i64 xa, .int .i64 xb, .int .i64 co] 38)))
 have hbqn : nb + 1 < wr.heap.size := HC.out.bf.lt
 clear HC
 generalize World.alloc wr _ = W at *
 obtain ⟨bq, hbq⟩ : ∃ bq, bq = wr.heap.size := ⟨_, rfl⟩
 rw [← hbq] at HBK hbqn ⊢
 clear hbq
 have d1 : W.cell? ⟨bq, 1, none⟩ = some (.int .i64 kd) := HBK.out.cell 1
 by_cases h3 : kd = 3
 ·have q3 : (kd == 3) = true := by simpa using h3
  have q4 : (kd != 4) = true := by simp; omega
  have q4e : (kd == 4) = false := by simp; omega
  go_wp2_with fail
  refine (one_any w1.heap.size 6 W HCN.out.x.dk (by decide)).mono ?_
  rintro e W2 ⟨r, rfl, hd6, hg6, hs6⟩
  have HCG := Lib.hid (HCN.out.grown HL.out hg6.out hd6.out)
  have HBG := Lib.hid (HBK.out.grown hg6.out (fun e => by have := HCN.out.ge; injection e with e; omega))
  have d1 : W2.cell? ⟨bq, 1, none⟩ = some (.int .i64 kd) := HBG.out.cell 1
  clear hd6 hg6 hs6 HCN HBK
  have HCN := Lib.hid HCG.out
  have HBK := Lib.hid HBG.out
  clear HCG HBG
  rcases r with _ | _; rotate_left
  ·go_wp2_with fail
   refine Handed.intro (nd - (i + 1)) (by omega) (hJ1 _ _ _ (LpI2.back 8 45 ?_ (by kernel_rfl)))
   dsimp only [gt]
   exact ⟨i + 1, c, cl, ck, nl, mk, As, Al, Ak, s, K, rfl, by go_num, by omega, rfl, HCN, HF, Lib.hid HKP.out.skip⟩
  have HPK := Lib.hid (HKP.out.put (p := 1) (.inr ⟨by rw [HKD.out]; omega, rfl⟩))
  have HK5 : Hid (kindOf ds (i : Int) ≠ 5) := by unfold Hid; rw [HKD.out]; omega
  go_upto_region 16 with (fail)
  have k0 : W2.cell? ⟨nb, 0, none⟩ = some (.slice An 6 cn) := HCN.out.bn.cell 0
  have k1 : W2.cell? ⟨nb, 1, none⟩ = some (.slice (some ⟨b, off, none⟩) nd cd) := HCN.out.bn.cell 1
  have f0 : W2.cell? ⟨nb + 1, 0, none⟩ = some (.slice As nd c) := HCN.out.bf.cell 0
  have f1 : W2.cell? ⟨nb + 1, 1, none⟩ = some (.slice Al nl cl) := HCN.out.bf.cell 1
  have f2 : W2.cell? ⟨nb + 1, 2, none⟩ = some (.slice none 0 0) := HCN.out.bf.cell 2
  go_wp2_with fail
  clear k0 k1 f0 f1 f2 d1
  have hil : i < ds.length := by omega
  refine (rmove_ok An (some ⟨b, off, none⟩) As Al none 6 cn nd cd nd c nl cl 0 0 ns ds ⟨s, K, []⟩ 1 i W2 HCN.out.x.fdm HF.out hlt (by decide) HK5.out HKP.out.free (by simp)).mono ?_
  rintro e w6 ⟨A6, c6, rfl, hO6, hb6⟩
  have HC6 := Lib.hid (HCN.out.setS hb6.out hO6.out (by omega))
  have HF6 := Lib.hid (HKP.out.moves HF.out hil HK5.out (p := 1) (by decide))
  have HSV : Hid ((s.set i 1).getD i 0 = 1) := by unfold Hid; rw [List.getD_eq_getElem?_getD, List.getElem?_set, if_pos rfl, if_pos (by have h : s.length = nd := hlns.2.2.1; omega)]; rfl
  clear hO6 hb6 HCN HBK HF
  go_upto_region 17 with (fail)
  have HC7 := Lib.hid (HC6.out.later ((Below.refl _ w6).alloc (Nat.le_refl _) (.cells #[.slice A6 nd c6, .slice Al nl cl, .slice none 0 0] 35)))
  have HY7 := Lib.hid (Blk.new w6 35 #[.slice A6 nd c6, .slice Al nl cl, .slice none 0 0])
  have hyb : nb + 1 < w6.heap.size := HC6.out.bf.lt
  have hyo : ∀ b, (Value.slice Ak mk ck).ownBlock = some b → b ≠ w6.heap.size := fun b e => by have := (HC6.out.k.lt b e).2; omega
  clear HC6
  generalize World.alloc w6 _ = w7 at *
  obtain ⟨yb, hybe⟩ : ∃ x, x = w6.heap.size := ⟨_, rfl⟩
  rw [← hybe] at HY7 hyb hyo ⊢
  clear hybe
  have HYO := Lib.hid hyo
  clear hyo
  have k0 : w7.cell? ⟨nb, 0, none⟩ = some (.slice An 6 cn) := HC7.out.bn.cell 0
  have k1 : w7.cell? ⟨nb, 1, none⟩ = some (.slice (some ⟨b, off, none⟩) nd cd) := HC7.out.bn.cell 1
  have f0 : w7.cell? ⟨yb, 0, none⟩ = some (.slice A6 nd c6) := HY7.out.cell 0
  have f1 : w7.cell? ⟨yb, 1, none⟩ = some (.slice Al nl cl) := HY7.out.cell 1
  have f2 : w7.cell? ⟨yb, 2, none⟩ = some (.slice none 0 0) := HY7.out.cell 2
  have hw9 : IntKind.wrap .i64 (900 + (i : Int)) = 900 + (i : Int) := by rw [IntWalk.i64_in _ (by omega)]
  go_wp2_with fail
  clear k0 k1 f0 f1 f2
  refine (rlock_ok An (some ⟨b, off, none⟩) A6 Al none 6 cn nd cd nd c6 nl cl 0 0 ns ds ⟨s.set i 1, K, []⟩ 1 (900 + (i : Int)) i w7 HC7.out.x.fdm HF6.out hlt (by decide) HSV.out (HKP.out.add HF6.out hil HK5.out (by decide))).mono ?_
  rintro e w8 ⟨A8, c8, rfl, hO8, hb8⟩
  have hO8' := hO8.out
  simp only [HKP.out.ins] at hO8'
  have HC8 := Lib.hid (HC7.out.setL hb8.out hO8' (by omega))
  have HF8 := Lib.hid (HKP.out.locks HF6.out hil HK5.out (p := 1) (by decide) (by decide) HSV.out)
  have HY8 := Lib.hid (HY7.out.below hb8.out HY7.out.lt)
  clear hO8 hO8' hb8 HC7 HY7 HF6 HSV
  have y0 := HY8.out.cell 0
  have y1 := HY8.out.cell 1
  have y2 := HY8.out.cell 2
  have z0 := HY8.out.frozen 0
  have z1 := HY8.out.frozen 1
  have z2 := HY8.out.frozen 2
  go_upto_region 20 with (fail)
  clear y0 y1 y2 z0 z1 z2
  have HC9 := Lib.hid (HC8.out.out3 (A1 := A6) (n1 := nd) (c1 := c6) (A2 := A8) (n2 := nl + 1) (c2 := c8) (A3 := none) (n3 := 0) (c3 := 0) HL.out HY8.out hyb HYO.out)
  have HY9 := Lib.hid (((HY8.out.set 0 (.slice A6 nd c6)).set 1 (.slice A8 (nl + 1) c8)).set 2 (.slice none 0 0))
  clear HC8 HY8
  generalize World.setCell (World.setCell (World.setCell w8 _ _) _ _) _ _ = w9 at *
  have y0 : w9.cell? ⟨yb, 0, none⟩ = some (.slice A6 nd c6) := HY9.out.cell 0
  have y1 : w9.cell? ⟨yb, 1, none⟩ = some (.slice A8 (nl + 1) c8) := HY9.out.cell 1
  have y2 : w9.cell? ⟨yb, 2, none⟩ = some (.slice none 0 0) := HY9.out.cell 2
  have g0 := HC9.out.bf.cell 0
  have g1 := HC9.out.bf.cell 1
  have g2 := HC9.out.bf.cell 2
  have z0 := HC9.out.bf.frozen 0
  have z1 := HC9.out.bf.frozen 1
  have z2 := HC9.out.bf.frozen 2
  go_upto_region 23 with (fail)
  clear y0 y1 y2 g0 g1 g2 z0 z1 z2 HY9
  have HCA := Lib.hid (HC9.out.take (A1 := A6) (n1 := nd) (c1 := c6) (A2 := A8) (n2 := nl + 1) (c2 := c8) (A3 := none) (n3 := 0) (c3 := 0) HL.out)
  clear HC9
  generalize World.setCell (World.setCell (World.setCell w9 _ _) _ _) _ _ = wa at *
  have hkl : mk = K.length := HCA.out.k.len.symm
  have hkl2 : nl = K.length := hlns.2.2.2.1.symm
  have hklen := HKP.out.1
  go_upto_region 24 with (at_builtin; go_must (refine wpList_app rfl (.tmp 98) (.tmp 104) rfl el_lock (by rfl) (World.ownsRow.alloc HCA.out.k _) (by rfl) (Sl.newest (n := 1) (by simp) (by rfl) (by decide)) (by simp [Value.oneCell']) (by omega) (by omega) (by have := HCA.out.bl.size; simp; have := HCA.out.bn.lt; have := HCA.out.ge; omega) ?_; intro Ab cb wb hownb hgrb hatb; (try simp only [Act.put, sA, s0, s1]); have HOB := Lib.hid hownb; have HGB := Lib.hid hgrb; have HTB := Lib.hid hatb; clear hownb hgrb hatb))
  have HCB : Hid (FzC w1 nb An (some ⟨b, off, none⟩) A6 A8 Az Ab cn nd cd c6 (nl + 1) c8 nz cz (mk + 1) cb #[.slice A6 nd c6, .slice A8 (nl + 1) c8, .slice none 0 0] ns ds (s.set i 1) (K ++ [⟨(i : Int), 1, 900 + (i : Int)⟩]) (K ++ [⟨(i : Int), 1, 900 + (i : Int)⟩]) z wb) := by
   refine (HCA.out.later ((Below.refl _ wa).alloc (Nat.le_refl _) _)).app HL.out ?_ HGB.out HTB.out
   unfold LocksO; rw [List.flatMap_append]; exact HOB.out
  clear HOB HGB HTB HCA
  go_wp2_with fail
  refine Handed.intro (nd - (i + 1)) (by omega) (hJ1 _ _ _ (LpI2.back 8 45 ?_ (by kernel_rfl)))
  dsimp only [gt]
  exact ⟨i + 1, c6, c8, cb, nl + 1, mk + 1, A6, A8, Ab, s.set i 1, K ++ [⟨(i : Int), 1, 900 + (i : Int)⟩], rfl, by go_num, by omega, rfl, HCB, HF8, HPK⟩
 ·have q3 : (kd == 3) = false := by simpa using h3
  by_cases h6 : kd = 6
  ·have q6 : (kd == 6) = true := by simpa using h6
   have q4 : (kd != 4) = true := by simp; omega
   have q4e : (kd == 4) = false := by simp; omega
   go_wp2_with fail
   refine (one_any w1.heap.size 6 W HCN.out.x.dk (by decide)).mono ?_
   rintro e W2 ⟨r, rfl, hd6, hg6, hs6⟩
   have HCG := Lib.hid (HCN.out.grown HL.out hg6.out hd6.out)
   have HBG := Lib.hid (HBK.out.grown hg6.out (fun e => by have := HCN.out.ge; injection e with e; omega))
   have d1 : W2.cell? ⟨bq, 1, none⟩ = some (.int .i64 kd) := HBG.out.cell 1
   clear hd6 hg6 hs6 HCN HBK
   have HCN := Lib.hid HCG.out
   have HBK := Lib.hid HBG.out
   clear HCG HBG
   rcases r with _ | _; rotate_left
   ·go_wp2_with fail
    refine Handed.intro (nd - (i + 1)) (by omega) (hJ1 _ _ _ (LpI2.back 8 45 ?_ (by kernel_rfl)))
    dsimp only [gt]
    exact ⟨i + 1, c, cl, ck, nl, mk, As, Al, Ak, s, K, rfl, by go_num, by omega, rfl, HCN, HF, Lib.hid HKP.out.skip⟩
   have HPK := Lib.hid (HKP.out.put (p := 1) (.inr ⟨by rw [HKD.out]; omega, rfl⟩))
   have HK5 : Hid (kindOf ds (i : Int) ≠ 5) := by unfold Hid; rw [HKD.out]; omega
   go_upto_region 16 with (fail)
   have k0 : W2.cell? ⟨nb, 0, none⟩ = some (.slice An 6 cn) := HCN.out.bn.cell 0
   have k1 : W2.cell? ⟨nb, 1, none⟩ = some (.slice (some ⟨b, off, none⟩) nd cd) := HCN.out.bn.cell 1
   have f0 : W2.cell? ⟨nb + 1, 0, none⟩ = some (.slice As nd c) := HCN.out.bf.cell 0
   have f1 : W2.cell? ⟨nb + 1, 1, none⟩ = some (.slice Al nl cl) := HCN.out.bf.cell 1
   have f2 : W2.cell? ⟨nb + 1, 2, none⟩ = some (.slice none 0 0) := HCN.out.bf.cell 2
   go_wp2_with fail
   clear k0 k1 f0 f1 f2 d1
   have hil : i < ds.length := by omega
   refine (rmove_ok An (some ⟨b, off, none⟩) As Al none 6 cn nd cd nd c nl cl 0 0 ns ds ⟨s, K, []⟩ 1 i W2 HCN.out.x.fdm HF.out hlt (by decide) HK5.out HKP.out.free (by simp)).mono ?_
   rintro e w6 ⟨A6, c6, rfl, hO6, hb6⟩
   have HC6 := Lib.hid (HCN.out.setS hb6.out hO6.out (by omega))
   have HF6 := Lib.hid (HKP.out.moves HF.out hil HK5.out (p := 1) (by decide))
   have HSV : Hid ((s.set i 1).getD i 0 = 1) := by unfold Hid; rw [List.getD_eq_getElem?_getD, List.getElem?_set, if_pos rfl, if_pos (by have h : s.length = nd := hlns.2.2.1; omega)]; rfl
   clear hO6 hb6 HCN HBK HF
   go_upto_region 17 with (fail)
   have HC7 := Lib.hid (HC6.out.later ((Below.refl _ w6).alloc (Nat.le_refl _) (.cells #[.slice A6 nd c6, .slice Al nl cl, .slice none 0 0] 35)))
   have HY7 := Lib.hid (Blk.new w6 35 #[.slice A6 nd c6, .slice Al nl cl, .slice none 0 0])
   have hyb : nb + 1 < w6.heap.size := HC6.out.bf.lt
   have hyo : ∀ b, (Value.slice Ak mk ck).ownBlock = some b → b ≠ w6.heap.size := fun b e => by have := (HC6.out.k.lt b e).2; omega
   clear HC6
   generalize World.alloc w6 _ = w7 at *
   obtain ⟨yb, hybe⟩ : ∃ x, x = w6.heap.size := ⟨_, rfl⟩
   rw [← hybe] at HY7 hyb hyo ⊢
   clear hybe
   have HYO := Lib.hid hyo
   clear hyo
   have k0 : w7.cell? ⟨nb, 0, none⟩ = some (.slice An 6 cn) := HC7.out.bn.cell 0
   have k1 : w7.cell? ⟨nb, 1, none⟩ = some (.slice (some ⟨b, off, none⟩) nd cd) := HC7.out.bn.cell 1
   have f0 : w7.cell? ⟨yb, 0, none⟩ = some (.slice A6 nd c6) := HY7.out.cell 0
   have f1 : w7.cell? ⟨yb, 1, none⟩ = some (.slice Al nl cl) := HY7.out.cell 1
   have f2 : w7.cell? ⟨yb, 2, none⟩ = some (.slice none 0 0) := HY7.out.cell 2
   have hw9 : IntKind.wrap .i64 (900 + (i : Int)) = 900 + (i : Int) := by rw [IntWalk.i64_in _ (by omega)]
   go_wp2_with fail
   clear k0 k1 f0 f1 f2
   refine (rlock_ok An (some ⟨b, off, none⟩) A6 Al none 6 cn nd cd nd c6 nl cl 0 0 ns ds ⟨s.set i 1, K, []⟩ 1 (900 + (i : Int)) i w7 HC7.out.x.fdm HF6.out hlt (by decide) HSV.out (HKP.out.add HF6.out hil HK5.out (by decide))).mono ?_
   rintro e w8 ⟨A8, c8, rfl, hO8, hb8⟩
   have hO8' := hO8.out
   simp only [HKP.out.ins] at hO8'
   have HC8 := Lib.hid (HC7.out.setL hb8.out hO8' (by omega))
   have HF8 := Lib.hid (HKP.out.locks HF6.out hil HK5.out (p := 1) (by decide) (by decide) HSV.out)
   have HY8 := Lib.hid (HY7.out.below hb8.out HY7.out.lt)
   clear hO8 hO8' hb8 HC7 HY7 HF6 HSV
   have y0 := HY8.out.cell 0
   have y1 := HY8.out.cell 1
   have y2 := HY8.out.cell 2
   have z0 := HY8.out.frozen 0
   have z1 := HY8.out.frozen 1
   have z2 := HY8.out.frozen 2
   go_upto_region 20 with (fail)
   clear y0 y1 y2 z0 z1 z2
   have HC9 := Lib.hid (HC8.out.out3 (A1 := A6) (n1 := nd) (c1 := c6) (A2 := A8) (n2 := nl + 1) (c2 := c8) (A3 := none) (n3 := 0) (c3 := 0) HL.out HY8.out hyb HYO.out)
   have HY9 := Lib.hid (((HY8.out.set 0 (.slice A6 nd c6)).set 1 (.slice A8 (nl + 1) c8)).set 2 (.slice none 0 0))
   clear HC8 HY8
   generalize World.setCell (World.setCell (World.setCell w8 _ _) _ _) _ _ = w9 at *
   have y0 : w9.cell? ⟨yb, 0, none⟩ = some (.slice A6 nd c6) := HY9.out.cell 0
   have y1 : w9.cell? ⟨yb, 1, none⟩ = some (.slice A8 (nl + 1) c8) := HY9.out.cell 1
   have y2 : w9.cell? ⟨yb, 2, none⟩ = some (.slice none 0 0) := HY9.out.cell 2
   have g0 := HC9.out.bf.cell 0
   have g1 := HC9.out.bf.cell 1
   have g2 := HC9.out.bf.cell 2
   have z0 := HC9.out.bf.frozen 0
   have z1 := HC9.out.bf.frozen 1
   have z2 := HC9.out.bf.frozen 2
   go_upto_region 23 with (fail)
   clear y0 y1 y2 g0 g1 g2 z0 z1 z2 HY9
   have HCA := Lib.hid (HC9.out.take (A1 := A6) (n1 := nd) (c1 := c6) (A2 := A8) (n2 := nl + 1) (c2 := c8) (A3 := none) (n3 := 0) (c3 := 0) HL.out)
   clear HC9
   generalize World.setCell (World.setCell (World.setCell w9 _ _) _ _) _ _ = wa at *
   have hkl : mk = K.length := HCA.out.k.len.symm
   have hkl2 : nl = K.length := hlns.2.2.2.1.symm
   have hklen := HKP.out.1
   go_upto_region 24 with (at_builtin; go_must (refine wpList_app rfl (.tmp 98) (.tmp 104) rfl el_lock (by rfl) (World.ownsRow.alloc HCA.out.k _) (by rfl) (Sl.newest (n := 1) (by simp) (by rfl) (by decide)) (by simp [Value.oneCell']) (by omega) (by omega) (by have := HCA.out.bl.size; simp; have := HCA.out.bn.lt; have := HCA.out.ge; omega) ?_; intro Ab cb wb hownb hgrb hatb; (try simp only [Act.put, sA, s0, s1]); have HOB := Lib.hid hownb; have HGB := Lib.hid hgrb; have HTB := Lib.hid hatb; clear hownb hgrb hatb))
   have HCB : Hid (FzC w1 nb An (some ⟨b, off, none⟩) A6 A8 Az Ab cn nd cd c6 (nl + 1) c8 nz cz (mk + 1) cb #[.slice A6 nd c6, .slice A8 (nl + 1) c8, .slice none 0 0] ns ds (s.set i 1) (K ++ [⟨(i : Int), 1, 900 + (i : Int)⟩]) (K ++ [⟨(i : Int), 1, 900 + (i : Int)⟩]) z wb) := by
    refine (HCA.out.later ((Below.refl _ wa).alloc (Nat.le_refl _) _)).app HL.out ?_ HGB.out HTB.out
    unfold LocksO; rw [List.flatMap_append]; exact HOB.out
   clear HOB HGB HTB HCA
   go_wp2_with fail
   refine Handed.intro (nd - (i + 1)) (by omega) (hJ1 _ _ _ (LpI2.back 8 45 ?_ (by kernel_rfl)))
   dsimp only [gt]
   exact ⟨i + 1, c6, c8, cb, nl + 1, mk + 1, A6, A8, Ab, s.set i 1, K ++ [⟨(i : Int), 1, 900 + (i : Int)⟩], rfl, by go_num, by omega, rfl, HCB, HF8, HPK⟩
  ·have q6 : (kd == 6) = false := by simpa using h6
   by_cases h4 : kd = 4
   ·have q4 : (kd != 4) = false := by simpa using h4
    have q4e : (kd == 4) = true := by simpa using h4
    have HPK := Lib.hid (HKP.out.put (p := 2) (.inl ⟨HKD.out.trans h4, rfl⟩))
    have HK5 : Hid (kindOf ds (i : Int) ≠ 5) := by unfold Hid; rw [HKD.out, h4]; decide
    go_upto_region 16 with (fail)
    have k0 : W.cell? ⟨nb, 0, none⟩ = some (.slice An 6 cn) := HCN.out.bn.cell 0
    have k1 : W.cell? ⟨nb, 1, none⟩ = some (.slice (some ⟨b, off, none⟩) nd cd) := HCN.out.bn.cell 1
    have f0 : W.cell? ⟨nb + 1, 0, none⟩ = some (.slice As nd c) := HCN.out.bf.cell 0
    have f1 : W.cell? ⟨nb + 1, 1, none⟩ = some (.slice Al nl cl) := HCN.out.bf.cell 1
    have f2 : W.cell? ⟨nb + 1, 2, none⟩ = some (.slice none 0 0) := HCN.out.bf.cell 2
    go_wp2_with fail
    clear k0 k1 f0 f1 f2 d1
    have hil : i < ds.length := by omega
    refine (rmove_ok An (some ⟨b, off, none⟩) As Al none 6 cn nd cd nd c nl cl 0 0 ns ds ⟨s, K, []⟩ 2 i W HCN.out.x.fdm HF.out hlt (by decide) HK5.out HKP.out.free (by simp)).mono ?_
    rintro e w6 ⟨A6, c6, rfl, hO6, hb6⟩
    have HC6 := Lib.hid (HCN.out.setS hb6.out hO6.out (by omega))
    have HF6 := Lib.hid (HKP.out.moves HF.out hil HK5.out (p := 2) (by decide))
    have HSV : Hid ((s.set i 2).getD i 0 = 2) := by unfold Hid; rw [List.getD_eq_getElem?_getD, List.getElem?_set, if_pos rfl, if_pos (by have h : s.length = nd := hlns.2.2.1; omega)]; rfl
    clear hO6 hb6 HCN HBK HF
    go_upto_region 17 with (fail)
    have HC7 := Lib.hid (HC6.out.later ((Below.refl _ w6).alloc (Nat.le_refl _) (.cells #[.slice A6 nd c6, .slice Al nl cl, .slice none 0 0] 35)))
    have HY7 := Lib.hid (Blk.new w6 35 #[.slice A6 nd c6, .slice Al nl cl, .slice none 0 0])
    have hyb : nb + 1 < w6.heap.size := HC6.out.bf.lt
    have hyo : ∀ b, (Value.slice Ak mk ck).ownBlock = some b → b ≠ w6.heap.size := fun b e => by have := (HC6.out.k.lt b e).2; omega
    clear HC6
    generalize World.alloc w6 _ = w7 at *
    obtain ⟨yb, hybe⟩ : ∃ x, x = w6.heap.size := ⟨_, rfl⟩
    rw [← hybe] at HY7 hyb hyo ⊢
    clear hybe
    have HYO := Lib.hid hyo
    clear hyo
    have k0 : w7.cell? ⟨nb, 0, none⟩ = some (.slice An 6 cn) := HC7.out.bn.cell 0
    have k1 : w7.cell? ⟨nb, 1, none⟩ = some (.slice (some ⟨b, off, none⟩) nd cd) := HC7.out.bn.cell 1
    have f0 : w7.cell? ⟨yb, 0, none⟩ = some (.slice A6 nd c6) := HY7.out.cell 0
    have f1 : w7.cell? ⟨yb, 1, none⟩ = some (.slice Al nl cl) := HY7.out.cell 1
    have f2 : w7.cell? ⟨yb, 2, none⟩ = some (.slice none 0 0) := HY7.out.cell 2
    have hw9 : IntKind.wrap .i64 (900 + (i : Int)) = 900 + (i : Int) := by rw [IntWalk.i64_in _ (by omega)]
    go_wp2_with fail
    clear k0 k1 f0 f1 f2
    refine (rlock_ok An (some ⟨b, off, none⟩) A6 Al none 6 cn nd cd nd c6 nl cl 0 0 ns ds ⟨s.set i 2, K, []⟩ 2 (900 + (i : Int)) i w7 HC7.out.x.fdm HF6.out hlt (by decide) HSV.out (HKP.out.add HF6.out hil HK5.out (by decide))).mono ?_
    rintro e w8 ⟨A8, c8, rfl, hO8, hb8⟩
    have hO8' := hO8.out
    simp only [HKP.out.ins] at hO8'
    have HC8 := Lib.hid (HC7.out.setL hb8.out hO8' (by omega))
    have HF8 := Lib.hid (HKP.out.locks HF6.out hil HK5.out (p := 2) (by decide) (by decide) HSV.out)
    have HY8 := Lib.hid (HY7.out.below hb8.out HY7.out.lt)
    clear hO8 hO8' hb8 HC7 HY7 HF6 HSV
    have y0 := HY8.out.cell 0
    have y1 := HY8.out.cell 1
    have y2 := HY8.out.cell 2
    have z0 := HY8.out.frozen 0
    have z1 := HY8.out.frozen 1
    have z2 := HY8.out.frozen 2
    go_upto_region 20 with (fail)
    clear y0 y1 y2 z0 z1 z2
    have HC9 := Lib.hid (HC8.out.out3 (A1 := A6) (n1 := nd) (c1 := c6) (A2 := A8) (n2 := nl + 1) (c2 := c8) (A3 := none) (n3 := 0) (c3 := 0) HL.out HY8.out hyb HYO.out)
    have HY9 := Lib.hid (((HY8.out.set 0 (.slice A6 nd c6)).set 1 (.slice A8 (nl + 1) c8)).set 2 (.slice none 0 0))
    clear HC8 HY8
    generalize World.setCell (World.setCell (World.setCell w8 _ _) _ _) _ _ = w9 at *
    have y0 : w9.cell? ⟨yb, 0, none⟩ = some (.slice A6 nd c6) := HY9.out.cell 0
    have y1 : w9.cell? ⟨yb, 1, none⟩ = some (.slice A8 (nl + 1) c8) := HY9.out.cell 1
    have y2 : w9.cell? ⟨yb, 2, none⟩ = some (.slice none 0 0) := HY9.out.cell 2
    have g0 := HC9.out.bf.cell 0
    have g1 := HC9.out.bf.cell 1
    have g2 := HC9.out.bf.cell 2
    have z0 := HC9.out.bf.frozen 0
    have z1 := HC9.out.bf.frozen 1
    have z2 := HC9.out.bf.frozen 2
    go_upto_region 23 with (fail)
    clear y0 y1 y2 g0 g1 g2 z0 z1 z2 HY9
    have HCA := Lib.hid (HC9.out.take (A1 := A6) (n1 := nd) (c1 := c6) (A2 := A8) (n2 := nl + 1) (c2 := c8) (A3 := none) (n3 := 0) (c3 := 0) HL.out)
    clear HC9
    generalize World.setCell (World.setCell (World.setCell w9 _ _) _ _) _ _ = wa at *
    have hkl : mk = K.length := HCA.out.k.len.symm
    have hkl2 : nl = K.length := hlns.2.2.2.1.symm
    have hklen := HKP.out.1
    go_upto_region 24 with (at_builtin; go_must (refine wpList_app rfl (.tmp 98) (.tmp 104) rfl el_lock (by rfl) (World.ownsRow.alloc HCA.out.k _) (by rfl) (Sl.newest (n := 1) (by simp) (by rfl) (by decide)) (by simp [Value.oneCell']) (by omega) (by omega) (by have := HCA.out.bl.size; simp; have := HCA.out.bn.lt; have := HCA.out.ge; omega) ?_; intro Ab cb wb hownb hgrb hatb; (try simp only [Act.put, sA, s0, s1]); have HOB := Lib.hid hownb; have HGB := Lib.hid hgrb; have HTB := Lib.hid hatb; clear hownb hgrb hatb))
    have HCB : Hid (FzC w1 nb An (some ⟨b, off, none⟩) A6 A8 Az Ab cn nd cd c6 (nl + 1) c8 nz cz (mk + 1) cb #[.slice A6 nd c6, .slice A8 (nl + 1) c8, .slice none 0 0] ns ds (s.set i 2) (K ++ [⟨(i : Int), 2, 900 + (i : Int)⟩]) (K ++ [⟨(i : Int), 2, 900 + (i : Int)⟩]) z wb) := by
     refine (HCA.out.later ((Below.refl _ wa).alloc (Nat.le_refl _) _)).app HL.out ?_ HGB.out HTB.out
     unfold LocksO; rw [List.flatMap_append]; exact HOB.out
    clear HOB HGB HTB HCA
    go_wp2_with fail
    refine Handed.intro (nd - (i + 1)) (by omega) (hJ1 _ _ _ (LpI2.back 8 45 ?_ (by kernel_rfl)))
    dsimp only [gt]
    exact ⟨i + 1, c6, c8, cb, nl + 1, mk + 1, A6, A8, Ab, s.set i 2, K ++ [⟨(i : Int), 2, 900 + (i : Int)⟩], rfl, by go_num, by omega, rfl, HCB, HF8, HPK⟩
   ·have q4 : (kd != 4) = true := by simpa using h4
    have q4e : (kd == 4) = false := by simpa using h4
    go_wp2_with fail
    refine Handed.intro (nd - (i + 1)) (by omega) (hJ1 _ _ _ (LpI2.back 8 45 ?_ (by kernel_rfl)))
    dsimp only [gt]
    exact ⟨i + 1, c, cl, ck, nl, mk, As, Al, Ak, s, K, rfl, by go_num, by omega, rfl, HCN, HF, Lib.hid HKP.out.skip⟩
end Go.Proofs.YtepicjpdhpojnaaGreatDoor
