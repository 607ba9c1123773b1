import Derived.Test.YtkkobemhbicjgaaGreatDoorC36
import Derived.Test.YtkkobemhbicjgaaGreatDoorC37
import Derived.Test.YtkkobemhbicjgaaGreatDoorC26
set_option maxRecDepth 100000
set_option maxHeartbeats 32000000
namespace Go.Proofs.YtkkobemhbicjgaaGreatDoor
open Go.RowKit
structure LcM (w w6 : World) (nb : Nat) (An Ad As : Option Addr) (nn cn nd cd cs : Nat) (ns : List Nd) (ds : List Dv) (s : List Int) (L : List (TypeId × Array Value)) (wr : World) : Prop where
 n : LwN w nb An nn cn ns Ad nd cd ds wr
 s : Sl wr wr.heap.size 1 As nd cs (intsV s)
 x : Bxs w6 L wr
theorem LcM.later {w w6 : World} {nb : Nat} {An Ad As : Option Addr} {nn cn nd cd cs : Nat} {ns : List Nd} {ds : List Dv} {s : List Int} {L : List (TypeId × Array Value)} {wr wr' : World} (h : LcM w w6 nb An Ad As nn cn nd cd cs ns ds s L wr) (hb : Below wr.heap.size wr wr') : LcM w w6 nb An Ad As nn cn nd cd cs ns ds s L wr' :=
 ⟨h.n.later hb, (h.s.below hb (Nat.le_refl _)).more hb.size, h.x.later hb⟩
theorem LcM.mem {w w6 : World} {nb : Nat} {An Ad As : Option Addr} {nn cn nd cd cs : Nat} {ns : List Nd} {ds : List Dv} {s : List Int} {L : List (TypeId × Array Value)} {wr : World} (h : LcM w w6 nb An Ad As nn cn nd cd cs ns ds s L wr) (hn : (∀ x ∈ ns, x.name.size ≤ 9223372036854775807) ∧ ∀ x ∈ ds, x.name.size ≤ 9223372036854775807) : HzMem wr An Ad As none none nn cn nd cd nd cs 0 0 0 0 ns ds s [] [] :=
 ⟨h.n.hn.1, h.n.hd.1, h.s, Sl.nil _ _ _, Sl.nil _ _ _, h.n.la, hn.1, hn.2⟩
def LkR (w w6 : World) (nb : Nat) (An Ad As : Option Addr) (nn cn nd cd cs : Nat) (ns : List Nd) (ds : List Dv) (s : List Int) (L : List (TypeId × Array Value)) (M : World → Prop) (fs : List Fn) (n gk : Nat) (iv lv av gv : Value) (wr : World) : Prop :=
 ∃ i : Nat, iv = .int .i64 i ∧ i ≤ n ∧ gk = n - i ∧ lv = .bool ((fs.take i).any fun f => Fn.eqB f ⟨1, 4⟩) ∧ av = .bool ((fs.take i).any fun f => f.st == 2) ∧ gv = .bool ((fs.take i).any fun f => decide (3 ≤ f.st)) ∧ Hid (LcM w w6 nb An Ad As nn cn nd cd cs ns ds s L wr) ∧ Hid (M wr)
theorem any_snoc {fs : List Fn} {i : Nat} {x : Fn} {p : Fn → Bool} (h : fs[i]? = some x) : (fs.take (i + 1)).any p = ((fs.take i).any p || p x) := by rw [take_snoc h]; simp
theorem lock_fin {n : Nat} {fs : List Fn} {H : List Int} (h : fs = fnsOf 1 H ++ [⟨2, 8⟩]) (h4 : 4 ∈ H) (hn : fs.length = n) : ((fs.take n).any fun f => Fn.eqB f ⟨1, 4⟩) = true ∧ ((fs.take n).any fun f => f.st == 2) = true ∧ ((fs.take n).any fun f => decide (3 ≤ f.st)) = false := by
 rw [List.take_of_length_le (by omega), h]
 refine ⟨?_, ?_, ?_⟩
 ·rw [List.any_eq_true]
  exact ⟨⟨(1 : Nat), 4⟩, List.mem_append_left _ (List.mem_map.mpr ⟨4, h4, rfl⟩), by decide⟩
 ·rw [List.any_eq_true]
  exact ⟨⟨2, 8⟩, List.mem_append_right _ (by simp), by decide⟩
 ·rw [List.any_eq_false]
  intro f hf
  rcases List.mem_append.mp hf with hf | hf
  ·obtain ⟨y, -, rfl⟩ := List.mem_map.mp hf; simp
  ·rw [List.mem_singleton.1 hf]; decide
theorem walk_CheckerLocks (w : World) (hl : Laid w) (A : Option Addr) (n c : Nat) (zs : List Int) (hs : Sl w w.heap.size 1 A n c (intsV zs)) (_hz : ∀ z ∈ zs, (Lit.int .i64 z).wf = true) :
 Calls Tryz.prog 4 #[.slice A n c] w fun e w' => e = .returned (.bool true) ∧ Below w.heap.size w w' := by
 have hnm := hs.le
 have HL := Lib.hid hl; have HS := Lib.hid hs
 clear hl hs _hz
 have HF := Lib.hid (few_any A n c w (by omega))
 rcases hf : decide (n ≤ 400) with _ | _
 ·rw [hf] at HF
  clear hf
  go_enter Tryz.func4, Tryz.ntmps4
  go_wp2_with fail
  refine HF.out.mono ?_
  rintro e w1 ⟨rfl, rfl⟩
  go_wp2_with fail
  refine (awake_any w HL.out).mono ?_
  rintro e w1 ⟨rfl, hb⟩
  go_wp2_with fail
  go_ret
  exact ⟨rfl, hb⟩
 rw [hf] at HF
 clear hf
 go_enter Tryz.func4, Tryz.ntmps4
 go_wp2_with fail
 refine HF.out.mono ?_
 rintro e w1 ⟨rfl, rfl⟩
 go_wp2_with fail
 refine (new_any A n c w.heap.size zs w HS.out (Nat.le_refl _)).mono ?_
 rintro e w1 ⟨rfl, hd1, hb1, hs1⟩
 go_wp2_with fail
 refine (mknet_any w.heap.size 5 8 w1 hd1.out (by decide) (by decide)).mono ?_
 rintro e w2 ⟨An, nn, cn, ns, Ad, nd, cd, ds, rfl, hd2, hg2, hrn, hrd, hmade⟩
 have HMK := LwN.mk0 HL.out hb1.out hs1.out hd2.out hg2.out hrn.out hrd.out hmade.out
 have HNN := Lib.hid HMK.2.1; have HND := Lib.hid HMK.2.2
 have HN3 := Lib.hid HMK.1
 have HMA := Lib.hid hmade.out
 have hnd : nd ≤ 8 := by have := hmade.out.dm; rw [HND.out] at this; omega
 have hnd1 : 1 ≤ nd := by have := hmade.out.d1; rw [HND.out] at this; omega
 have hnn : nn ≤ 5 := by have := hmade.out.nm; rw [HNN.out] at this; omega
 have HNM := Lib.hid HMA.out.names
 have HCK := Lib.hid (HMA.out.check (by decide) (by decide))
 clear HMK hd1 hb1 hs1 hd2 hg2 hrn hrd hmade HS HF
 go_wp2_with fail
 generalize World.alloc _ _ = w3 at *
 obtain ⟨nb, hnb⟩ : ∃ nb, nb = w2.heap.size := ⟨_, rfl⟩
 rw [← hnb] at HN3 ⊢
 clear hnb
 refine (mkstate_any w.heap.size An Ad nn cn nd cd ds w3 HN3.out.dk HN3.out.hd (by omega)).mono ?_
 rintro e w5 ⟨As, cs, s, rfl, hd5, hg5, hO5, hpos⟩
 have HN5 := Lib.hid (HN3.out.grown HL.out hg5.out hd5.out)
 have HX5 : Hid (SlX w5 w.heap.size 1 As nd cs (intsV s)) := SlX.of_own hO5.out (by have := HN3.out.bl.size; have := HN3.out.bx.lt; have := HN3.out.ge; omega)
 have HLS : Hid (s.length = nd) := hO5.out.len
 have HSE : Hid (stateErr ns ds s = 0) := stateErr_zero HCK.out (by rw [HLS.out, HND.out]) hpos.out
 clear hd5 hg5 hO5 hpos HN3
 go_wp2_with fail
 refine (next_any w.heap.size (nd : Int) w5 HN5.out.dk (by omega)).mono ?_
 rintro e w6 ⟨v1, rfl, hv0, _, hv1, hd6, hg6, hs6⟩
 have hv1n := hv1.out (by omega)
 have HN6 := Lib.hid (HN5.out.grown HL.out hg6.out hd6.out)
 have HX6 := Lib.hid (HX5.out.grown hg6.out)
 clear hv1 hd6 hg6 hs6 HN5 HX5
 obtain ⟨i, rfl⟩ := Int.eq_ofNat_of_zero_le hv0
 have hin : i < nd := by omega
 clear hv0 hv1n
 obtain ⟨bd, od, x, hAd, hbd, hx, hcx⟩ := HN6.out.hd.1.at (fun _ => rfl) (by decide) hin
 have HAD := Lib.hid hAd
 have HXI := Lib.hid hx
 clear hAd hbd hx
 have k1 : w6.cell? ⟨nb, 1, none⟩ = some (.slice (some ⟨bd, od, none⟩) nd cd) := by rw [← HAD.out]; exact HN6.out.bx.cell 1
 have d1 : w6.cell? ⟨bd, od + i * 5 + 1, none⟩ = some (.int .i64 x.kind) := hcx 1 _ rfl
 clear hcx
 have hn9 : nd ≤ 9223372036854775807 := by omega
 have HJ : Hid (∀ a : Nat, a < nd → a < nd) := fun a h => h
 by_cases hk5 : x.kind = 5
 focus
  have q1 : (x.kind == 5) = true := by simpa using hk5
  have hw0 : IntKind.i64.wrap ((nd : Int) - 1) = (nd : Int) - 1 := IntWalk.i64_in _ (by omega)
  go_upto_region 9 with (fail)
  clear q1 hw0 k1 d1 hk5
  rw [show ((nd : Int) - 1) = ((nd - 1 : Nat) : Int) by omega]
  obtain ⟨j, hj⟩ : ∃ j, j = nd - 1 := ⟨_, rfl⟩
  have hjn : j < nd := by omega
  rw [← hj]
  clear hj
 rotate_left 1
 focus
  have q1 : (x.kind == 5) = false := by simpa using hk5
  go_upto_region 9 with (fail)
  clear q1 k1 d1 hk5
  obtain ⟨j, hj⟩ : ∃ j, j = i := ⟨_, rfl⟩
  have hjn : j < nd := by omega
  rw [← hj]
  clear hj
 all_goals
  clear HXI HAD HJ hin
  obtain ⟨bs, os, y, hAs, hbs, hy, hcy⟩ := HX6.out.1.at1 hjn
  have HAS := Lib.hid hAs
  have HYJ : Hid (s[j]? = some y) := hy
  have HY12 : Hid (y = 1 ∨ y = 2) := by
   rcases state_at HSE.out (i := j) (by rw [HLS.out]; exact hjn) with h | h
   ·rw [HYJ.out] at h; injection h with h; exact .inl h
   ·rw [HYJ.out] at h; injection h with h; exact .inr h
  have hy1 : 1 ≤ y := by have := HY12.out; omega
  have hy2 : y ≤ 2 := by have := HY12.out; omega
  have HB := Lib.hid (Bxs.new4 w6 (43, #[.int .i64 3, .int .i64 j, .int .i64 0, .int .i64 y, .int .i64 7]) (43, #[.int .i64 4, .int .i64 j, .int .i64 0, .int .i64 0, .int .i64 7]) (43, #[.int .i64 (3 - y), .int .i64 j, .int .i64 0, .int .i64 0, .int .i64 0]) (37, #[.int .i64 0, .slice none 0 0, .slice none 0 0]))
  dsimp only at HB
  clear hAs hbs hy
  rw [HAS.out]
  go_upto_region 11 with (fail)
  have hcy2 := keep_cell (w' := World.alloc (World.alloc w6 (.cells #[.int .i64 3, .int .i64 j, .int .i64 0, .int .i64 y, .int .i64 7] 43)) (.cells #[.int .i64 4, .int .i64 j, .int .i64 0, .int .i64 0, .int .i64 7] 43)) (((Below.refl _ _).alloc (Nat.le_refl _) _).alloc (by simp) _) hcy
  go_upto_region 13 with (fail)
  clear hcy hcy2
  have HBW : Hid (Below w6.heap.size w6 _) := HB.out.l
  generalize World.alloc (World.alloc (World.alloc (World.alloc w6 _) _) _) _ = W at *
  rw [show w6.heap.size + 1 + 1 = w6.heap.size + 2 from rfl, show w6.heap.size + 2 + 1 = w6.heap.size + 3 from rfl]
  have HM : Hid (LcM w w6 nb An Ad As nn cn nd cd cs ns ds s [(43, #[.int .i64 3, .int .i64 j, .int .i64 0, .int .i64 y, .int .i64 7]), (43, #[.int .i64 4, .int .i64 j, .int .i64 0, .int .i64 0, .int .i64 7]), (43, #[.int .i64 (3 - y), .int .i64 j, .int .i64 0, .int .i64 0, .int .i64 0]), (37, #[.int .i64 0, .slice none 0 0, .slice none 0 0])] W) := ⟨HN6.out.later HBW.out, (HX6.out.1.below HBW.out (Nat.le_refl _)).more HBW.out.size, HB.out⟩
  clear HN6 HX6 HB HBW
  have k0 := HM.out.n.bx.cell 0; have k1 := HM.out.n.bx.cell 1
  have g0 := HM.out.x.b3.cell 0; have g1 := HM.out.x.b3.cell 1; have g2 := HM.out.x.b3.cell 2
  have a0 := HM.out.x.b0.cell 0; have a1 := HM.out.x.b0.cell 1; have a2 := HM.out.x.b0.cell 2; have a3 := HM.out.x.b0.cell 3; have a4 := HM.out.x.b0.cell 4
  have b0 := HM.out.x.b1.cell 0; have b1 := HM.out.x.b1.cell 1; have b2 := HM.out.x.b1.cell 2; have b3 := HM.out.x.b1.cell 3; have b4 := HM.out.x.b1.cell 4
  go_wp2_with fail
  clear k0 k1 g0 g1 g2 a0 a1 a2 a3 a4 b0 b1 b2 b3 b4
  rw [← HAS.out]
  have HBL : Hid (Below W.heap.size W (W.alloc (.cells #[.int .i64 3, .int .i64 j, .int .i64 0, .int .i64 y, .int .i64 7, .int .i64 4, .int .i64 j, .int .i64 0, .int .i64 0, .int .i64 7] 43))) := (Below.refl _ _).alloc (Nat.le_refl _) _
  have HSX : Hid (Sl (W.alloc (.cells #[.int .i64 3, .int .i64 j, .int .i64 0, .int .i64 y, .int .i64 7, .int .i64 4, .int .i64 j, .int .i64 0, .int .i64 0, .int .i64 7] 43)) (W.alloc (.cells #[.int .i64 3, .int .i64 j, .int .i64 0, .int .i64 y, .int .i64 7, .int .i64 4, .int .i64 j, .int .i64 0, .int .i64 0, .int .i64 7] 43)).heap.size 5 (some ⟨W.heap.size, 0, none⟩) 2 2 (([⟨3, j, 0, y, 7⟩, ⟨4, j, 0, 0, 7⟩] : List Sp).flatMap Sp.cells)) := (Sl.newest (n := 2) (size := 5) rfl rfl (by decide)).more (by simp)
  have HM1 := Lib.hid (HM.out.later HBL.out)
  clear HM HBL
  generalize World.alloc W _ = w7 at *
  have HME := Lib.hid (mask_of_state HSE.out)
  have hds8 : ds.length ≤ 8 := by have := HND.out; omega
  have HD8 := Lib.hid hds8
  clear hds8
  have HOK : Hid (ChOk ns ds ⟨s, [], []⟩) := ⟨HME.out, sm_locks HCK.out ⟨by simp, by simp, List.Pairwise.nil⟩, rfl⟩
  have HJD : Hid (j < ds.length) := by have := HND.out; unfold Hid; omega
  have HVA : Hid (∀ x ∈ ([⟨3, j, 0, y, 7⟩, ⟨4, j, 0, 0, 7⟩] : List Sp), spErr ns.length ds.length x = 0) := by
   intro x hx
   simp only [List.mem_cons, List.not_mem_nil, or_false] at hx
   rcases hx with rfl | rfl
   ·exact sp_lock HJD.out HY12.out
   ·exact sp_unlock HJD.out
  have HVB : Hid (∀ x ∈ ([⟨3, j, 0, y, 7⟩, ⟨3 - y, j, 0, 0, 0⟩, ⟨3, j, 0, y, 7⟩, ⟨4, j, 0, 0, 7⟩, ⟨4, j, 0, 0, 7⟩] : List Sp), spErr ns.length ds.length x = 0) := by
   intro x hx
   simp only [List.mem_cons, List.not_mem_nil, or_false] at hx
   rcases hx with rfl | rfl | rfl | rfl | rfl
   ·exact sp_lock HJD.out HY12.out
   ·exact sp_move HJD.out (by have := HY12.out; omega)
   ·exact sp_lock HJD.out HY12.out
   ·exact sp_unlock HJD.out
   ·exact sp_unlock HJD.out
  have HEA : Hid (chErr ns ds s 0 [] [] ⟨#[80]⟩ [⟨3, j, 0, y, 7⟩, ⟨4, j, 0, 0, 7⟩] = 0) := ch_made HME.out (by decide) ⟨by simp, by simp, List.Pairwise.nil⟩ rfl (by decide) (by simp) HVA.out
  have HEB : Hid (chErr ns ds s 0 [] [] ⟨#[80]⟩ [⟨3, j, 0, y, 7⟩, ⟨3 - y, j, 0, 0, 0⟩, ⟨3, j, 0, y, 7⟩, ⟨4, j, 0, 0, 7⟩, ⟨4, j, 0, 0, 7⟩] = 0) := ch_made HME.out (by decide) ⟨by simp, by simp, List.Pairwise.nil⟩ rfl (by decide) (by simp) HVB.out
  refine (chRun_any An Ad As none none (some ⟨W.heap.size, 0, none⟩) nn cn nd cd nd cs 0 0 0 0 2 2 ns ds s [] [] 0 ⟨#[80]⟩ [⟨3, j, 0, y, 7⟩, ⟨4, j, 0, 0, 7⟩] w7 ⟨HM1.out.mem HNM.out, HSX.out, by decide⟩).mono ?_
  intro e w8 hpost
  obtain ⟨A1, A2, A3, A4, n1, c1, n2, c2, n3, c3, n4, c4, rfl, hR, hb8⟩ := hpost.okay HEA.out (chRun_e HD8.out _ _ _ _ HOK.out HVA.out)
  clear hpost
  obtain ⟨Ra, hRa⟩ : ∃ R, R = chRun ns ds 0 0 [] ⟨s, [], []⟩ [⟨3, j, 0, y, 7⟩, ⟨4, j, 0, 0, 7⟩] := ⟨_, rfl⟩
  rw [← hRa] at hR
  have HRA := Lib.hid hRa
  have HR8 := Lib.hid hR.out
  have HM8 := Lib.hid (HM1.out.later hb8.out)
  clear hR hb8 HM1 HSX hRa
  go_upto_region 14 with (fail)
  have HBL : Hid (Below w8.heap.size w8 (w8.alloc (.cells #[.slice A1 n1 c1, .slice A2 n2 c2, .int .i64 0, .slice A3 n3 c3, .slice A4 n4 c4] 47))) := (Below.refl _ _).alloc (Nat.le_refl _) _
  have HG9 := Lib.hid (Blk.new w8 47 #[.slice A1 n1 c1, .slice A2 n2 c2, .int .i64 0, .slice A3 n3 c3, .slice A4 n4 c4])
  have HM9 := Lib.hid (HM8.out.later HBL.out)
  have HR9 := Lib.hid (HR8.out.later8 HBL.out)
  clear HM8 HR8 HBL
  generalize World.alloc w8 _ = w9 at *
  obtain ⟨ra, hra⟩ : ∃ x, x = w8.heap.size := ⟨_, rfl⟩
  rw [← hra] at HG9 ⊢
  clear hra
  have k0 := HM9.out.n.bx.cell 0; have k1 := HM9.out.n.bx.cell 1
  have g0 := HM9.out.x.b3.cell 0; have g1 := HM9.out.x.b3.cell 1; have g2 := HM9.out.x.b3.cell 2
  have a0 := HM9.out.x.b0.cell 0; have a1 := HM9.out.x.b0.cell 1; have a2 := HM9.out.x.b0.cell 2; have a3 := HM9.out.x.b0.cell 3; have a4 := HM9.out.x.b0.cell 4
  have b0 := HM9.out.x.b1.cell 0; have b1 := HM9.out.x.b1.cell 1; have b2 := HM9.out.x.b1.cell 2; have b3 := HM9.out.x.b1.cell 3; have b4 := HM9.out.x.b1.cell 4
  have m0 := HM9.out.x.b2.cell 0; have m1 := HM9.out.x.b2.cell 1; have m2 := HM9.out.x.b2.cell 2; have m3 := HM9.out.x.b2.cell 3; have m4 := HM9.out.x.b2.cell 4
  go_wp2_with fail
  clear k0 k1 g0 g1 g2 a0 a1 a2 a3 a4 b0 b1 b2 b3 b4 m0 m1 m2 m3 m4
  have HBL : Hid (Below w9.heap.size w9 (w9.alloc (.cells #[.int .i64 3, .int .i64 j, .int .i64 0, .int .i64 y, .int .i64 7, .int .i64 (3 - y), .int .i64 j, .int .i64 0, .int .i64 0, .int .i64 0, .int .i64 3, .int .i64 j, .int .i64 0, .int .i64 y, .int .i64 7, .int .i64 4, .int .i64 j, .int .i64 0, .int .i64 0, .int .i64 7, .int .i64 4, .int .i64 j, .int .i64 0, .int .i64 0, .int .i64 7] 43))) := (Below.refl _ _).alloc (Nat.le_refl _) _
  have HSX : Hid (Sl (w9.alloc (.cells #[.int .i64 3, .int .i64 j, .int .i64 0, .int .i64 y, .int .i64 7, .int .i64 (3 - y), .int .i64 j, .int .i64 0, .int .i64 0, .int .i64 0, .int .i64 3, .int .i64 j, .int .i64 0, .int .i64 y, .int .i64 7, .int .i64 4, .int .i64 j, .int .i64 0, .int .i64 0, .int .i64 7, .int .i64 4, .int .i64 j, .int .i64 0, .int .i64 0, .int .i64 7] 43)) (w9.alloc (.cells #[.int .i64 3, .int .i64 j, .int .i64 0, .int .i64 y, .int .i64 7, .int .i64 (3 - y), .int .i64 j, .int .i64 0, .int .i64 0, .int .i64 0, .int .i64 3, .int .i64 j, .int .i64 0, .int .i64 y, .int .i64 7, .int .i64 4, .int .i64 j, .int .i64 0, .int .i64 0, .int .i64 7, .int .i64 4, .int .i64 j, .int .i64 0, .int .i64 0, .int .i64 7] 43)).heap.size 5 (some ⟨w9.heap.size, 0, none⟩) 5 5 (([⟨3, j, 0, y, 7⟩, ⟨3 - y, j, 0, 0, 0⟩, ⟨3, j, 0, y, 7⟩, ⟨4, j, 0, 0, 7⟩, ⟨4, j, 0, 0, 7⟩] : List Sp).flatMap Sp.cells)) := (Sl.newest (n := 5) (size := 5) rfl rfl (by decide)).more (by simp)
  have HM10 := Lib.hid (HM9.out.later HBL.out)
  have HG10 := Lib.hid (HG9.out.below HBL.out HG9.out.lt)
  have HR10 := Lib.hid (HR9.out.later8 HBL.out)
  clear HM9 HG9 HR9 HBL
  generalize World.alloc w9 _ = w10 at *
  refine (chRun_any An Ad As none none (some ⟨w9.heap.size, 0, none⟩) nn cn nd cd nd cs 0 0 0 0 5 5 ns ds s [] [] 0 ⟨#[80]⟩ [⟨3, j, 0, y, 7⟩, ⟨3 - y, j, 0, 0, 0⟩, ⟨3, j, 0, y, 7⟩, ⟨4, j, 0, 0, 7⟩, ⟨4, j, 0, 0, 7⟩] w10 ⟨HM10.out.mem HNM.out, HSX.out, by decide⟩).mono ?_
  intro e w11 hpost
  obtain ⟨B1, B2, B3, B4, m1, e1, m2, e2, m3, e3, m4, e4, rfl, hR, hb11⟩ := hpost.okay HEB.out (chRun_e HD8.out _ _ _ _ HOK.out HVB.out)
  clear hpost
  obtain ⟨Rb, hRb⟩ : ∃ R, R = chRun ns ds 0 0 [] ⟨s, [], []⟩ [⟨3, j, 0, y, 7⟩, ⟨3 - y, j, 0, 0, 0⟩, ⟨3, j, 0, y, 7⟩, ⟨4, j, 0, 0, 7⟩, ⟨4, j, 0, 0, 7⟩] := ⟨_, rfl⟩
  rw [← hRb] at hR
  have HRB := Lib.hid hRb
  have HQ11 := Lib.hid hR.out
  have HM11 := Lib.hid (HM10.out.later hb11.out)
  have HG11 := Lib.hid (HG10.out.below hb11.out HG10.out.lt)
  have HR11 := Lib.hid (HR10.out.later8 hb11.out)
  clear hR hb11 HM10 HG10 HR10 HSX hRb
  go_upto_region 15 with (fail)
  have HBL : Hid (Below w11.heap.size w11 (w11.alloc (.cells #[.slice B1 m1 e1, .slice B2 m2 e2, .int .i64 0, .slice B3 m3 e3, .slice B4 m4 e4] 47))) := (Below.refl _ _).alloc (Nat.le_refl _) _
  have HH12 := Lib.hid (Blk.new w11 47 #[.slice B1 m1 e1, .slice B2 m2 e2, .int .i64 0, .slice B3 m3 e3, .slice B4 m4 e4])
  have HM12 := Lib.hid (HM11.out.later HBL.out)
  have HG12 := Lib.hid (HG11.out.below HBL.out HG11.out.lt)
  have HR12 := Lib.hid (HR11.out.later8 HBL.out)
  have HQ12 := Lib.hid (HQ11.out.later8 HBL.out)
  clear HM11 HG11 HR11 HQ11 HBL
  generalize World.alloc w11 _ = w12 at *
  obtain ⟨rb, hrb⟩ : ∃ x, x = w11.heap.size := ⟨_, rfl⟩
  rw [← hrb] at HH12 ⊢
  clear hrb
  obtain ⟨bd, od, x, hAd, hbd, hx, hcx⟩ := HM12.out.n.hd.1.at (fun _ => rfl) (by decide) hjn
  have HAD := Lib.hid hAd
  have HXJ : Hid (ds[j]? = some x) := hx
  clear hAd hbd hx
  have k1 : w12.cell? ⟨nb, 1, none⟩ = some (.slice (some ⟨bd, od, none⟩) nd cd) := by rw [← HAD.out]; exact HM12.out.n.bx.cell 1
  have d1 : w12.cell? ⟨bd, od + j * 5 + 1, none⟩ = some (.int .i64 x.kind) := hcx 1 _ rfl
  clear hcx
  by_cases hk5 : x.kind = 5
  ·have q1 : (x.kind == 5) = true := by simpa using hk5
   clear hk5
   go_wp2_with fail
   clear q1 k1 d1
   refine (awake_any w12 HM12.out.n.la).mono ?_
   rintro e w13 ⟨rfl, hb⟩
   go_wp2_with fail
   go_ret
   exact ⟨rfl, HM12.out.n.bl.trans (hb.mono HM12.out.n.bl.size)⟩
  have q1 : (x.kind == 5) = false := by simpa using hk5
  have HK5 : Hid (x.kind ≠ 5) := hk5
  clear hk5
  have HLA : Hid (Ra = ⟨0, [], ⟨s, [], []⟩⟩) := HRA.out.trans (lock_gone HCK.out HXJ.out HK5.out HYJ.out HY12.out 0)
  obtain ⟨H, h4, hLB⟩ := lock_held HD8.out HME.out HXJ.out HK5.out HYJ.out HY12.out 0 [⟨4, j, 0, 0, 7⟩, ⟨4, j, 0, 0, 7⟩]
  have HLB : Hid (Rb = ⟨0, fnsOf 1 H ++ [⟨2, 8⟩], ⟨s.set j (3 - y), [lkOf j y], []⟩⟩) := HRB.out.trans hLB
  have H4 : Hid (4 ∈ H) := h4
  clear hLB h4
  have HFL : Hid (Rb.o = fnsOf 1 H ++ [⟨2, 8⟩]) := by unfold Hid; rw [HLB.out]
  have HN1 : Hid (n1 = 0) := by have := HR12.out.o.len (fun _ => rfl) (by decide); rw [HLA.out] at this; exact this.symm
  have HN3L : Hid (n3 = 0) := by have := HR12.out.l.len (fun _ => rfl) (by decide); rw [HLA.out] at this; exact this.symm
  have HM3L : Hid (m3 = 1) := by have := HQ12.out.l.len (fun _ => rfl) (by decide); rw [HLB.out] at this; exact this.symm
  have HMS : Hid (Sl w12 w12.heap.size 1 A2 n2 c2 (intsV s)) := by have := HR12.out.s; rw [HLA.out] at this; exact this
  have HFS : Hid (Sl w12 w12.heap.size 2 B1 m1 e1 (Rb.o.flatMap Fn.cells)) := HQ12.out.o
  have HFN : Hid (Rb.o.length = m1) := HFS.out.len (fun _ => rfl) (by decide)
  obtain ⟨fs, hfs⟩ : ∃ fs, fs = Rb.o := ⟨_, rfl⟩
  rw [← hfs] at HFL HFS HFN
  clear hfs HR12 HQ12
  have hm1 : m1 ≤ 9223372036854775807 := by have := HFS.out.le; omega
  obtain ⟨MM, hMM⟩ : ∃ MM : World → Prop, MM = fun W' => Blk W' ra 47 #[.slice A1 n1 c1, .slice A2 n2 c2, .int .i64 0, .slice A3 n3 c3, .slice A4 n4 c4] ∧ Blk W' rb 47 #[.slice B1 m1 e1, .slice B2 m2 e2, .int .i64 0, .slice B3 m3 e3, .slice B4 m4 e4] ∧ Sl W' W'.heap.size 1 A2 n2 c2 (intsV s) ∧ Sl W' W'.heap.size 2 B1 m1 e1 (fs.flatMap Fn.cells) := ⟨_, rfl⟩
  have HMK : Hid (∀ {W1 W2 : World}, MM W1 → Below W1.heap.size W1 W2 → MM W2) := by
   rw [hMM]; exact fun h hb => ⟨h.1.below hb h.1.lt, h.2.1.below hb h.2.1.lt, (h.2.2.1.below hb (Nat.le_refl _)).more hb.size, (h.2.2.2.below hb (Nat.le_refl _)).more hb.size⟩
  have HMO : Hid (∀ W', MM W' → Blk W' ra 47 #[.slice A1 n1 c1, .slice A2 n2 c2, .int .i64 0, .slice A3 n3 c3, .slice A4 n4 c4] ∧ Blk W' rb 47 #[.slice B1 m1 e1, .slice B2 m2 e2, .int .i64 0, .slice B3 m3 e3, .slice B4 m4 e4] ∧ Sl W' W'.heap.size 1 A2 n2 c2 (intsV s) ∧ Sl W' W'.heap.size 2 B1 m1 e1 (fs.flatMap Fn.cells)) := fun W' h => by rw [hMM] at h; exact h
  have HMW : Hid (MM w12) := by unfold Hid; rw [hMM]; exact ⟨HG12.out, HH12.out, HMS.out, HFS.out⟩
  clear hMM HG12 HH12 HMS HFS
  have r0 := (HMO.out _ HMW.out).2.1.c0
  go_upto_region 19 with (fail)
  clear q1 k1 d1 r0
  refine wp_loop_u4 [(14, 0), (0, 3), (0, 4), (0, 5), (0, 0), (0, 1), (92, 0), (0, 2), (21, 1), (36, 0)] 113 15 16 17 (m1) (LkR w w6 nb An Ad As nn cn nd cd cs ns ds s [(43, #[.int .i64 3, .int .i64 j, .int .i64 0, .int .i64 y, .int .i64 7]), (43, #[.int .i64 4, .int .i64 j, .int .i64 0, .int .i64 0, .int .i64 7]), (43, #[.int .i64 (3 - y), .int .i64 j, .int .i64 0, .int .i64 0, .int .i64 0]), (37, #[.int .i64 0, .slice none 0 0, .slice none 0 0])] MM fs m1) (by (try dsimp only [gt]); exact ⟨0, rfl, Nat.zero_le _, rfl, rfl, rfl, rfl, HM12, HMW⟩) (by kernel_rfl) ?_
  intro u1 p113 p15 p16 p17 gk wr a hrel ha J1 K1 hJ1 hK1
  dsimp only [relaxR, Go.Proofs.YtkkobemhbicjgaaGreatDoor.v4, Nat.reduceAdd] at ha
  subst ha
  clear HM12 HMW
  obtain ⟨k, rfl, hk, rfl, rfl, rfl, rfl, hM, hW⟩ := hrel
  have HMr := Lib.hid hM.out; have HWr := Lib.hid hW.out
  clear hM hW
  by_cases hkl : k < m1
  ·have q1 : decide (k < m1) = true := by simpa using hkl
   obtain ⟨bf, of, f1, f2, hBf, hbf, hf, hc1, hc2⟩ := (HMO.out _ HWr.out).2.2.2.fnd hkl
   have HBF := Lib.hid hBf
   have HF : Hid (fs[k]? = some ⟨f1, f2⟩) := hf
   clear hBf hbf hf
   rw [HBF.out]
   go_upto_region 21 with (fail)
   clear hc1 hc2 q1
   have HBL : Hid (Below wr.heap.size wr (wr.alloc (.cells #[.int .i64 f1, .int .i64 f2] 53))) := (Below.refl _ _).alloc (Nat.le_refl _) _
   have HF9 := Lib.hid (Blk.new wr 53 #[.int .i64 f1, .int .i64 f2])
   have HMn := Lib.hid (HMr.out.later HBL.out)
   have HWn := Lib.hid (HMK.out HWr.out HBL.out)
   clear HMr HWr HBL
   generalize World.alloc wr _ = X at *
   obtain ⟨xb, hxb⟩ : ∃ x, x = wr.heap.size := ⟨_, rfl⟩
   rw [← hxb] at HF9 ⊢
   clear hxb
   have e0 := HF9.out.c0
   have e1' : X.cell? ⟨xb, 1, none⟩ = some (.int .i64 f2) := HF9.out.cell 1
   have hq := run_eql_fn f1 f2 1 4
   have HA1 : Hid ((fs.take (k + 1)).any (fun f => Fn.eqB f ⟨1, 4⟩) = ((fs.take k).any (fun f => Fn.eqB f ⟨1, 4⟩) || Fn.eqB ⟨f1, f2⟩ ⟨1, 4⟩)) := any_snoc HF.out
   have HA2 : Hid ((fs.take (k + 1)).any (fun f => f.st == 2) = ((fs.take k).any (fun f => f.st == 2) || (f1 == 2))) := any_snoc HF.out
   have HA3 : Hid ((fs.take (k + 1)).any (fun f => decide (3 ≤ f.st)) = ((fs.take k).any (fun f => decide (3 ≤ f.st)) || decide (3 ≤ f1))) := any_snoc HF.out
   generalize (fs.take k).any (fun f => Fn.eqB f ⟨1, 4⟩) = T1 at *
   generalize (fs.take k).any (fun f => f.st == 2) = T2 at *
   generalize (fs.take k).any (fun f => decide (3 ≤ f.st)) = T3 at *
   have hkk : IntKind.i64.wrap ((k : Int) + 1) = (k : Int) + 1 := IntWalk.i64_in _ (by omega)
   have q2 : ∀ b : Bool, b = Fn.eqB ⟨f1, f2⟩ ⟨1, 4⟩ → True := fun _ _ => trivial
   clear q2
   generalize Fn.eqB ⟨f1, f2⟩ ⟨1, 4⟩ = U1 at *
   obtain ⟨U2, hU2⟩ : ∃ U, U = (f1 == 2) := ⟨_, rfl⟩
   obtain ⟨U3, hU3⟩ : ∃ U, U = decide (3 ≤ f1) := ⟨_, rfl⟩
   rw [← hU2] at HA2
   rw [← hU3] at HA3
   have u2 := hU2.symm; have u3 := hU3.symm
   clear hU2 hU3
   rcases T1 with _ | _ <;> rcases T2 with _ | _ <;> rcases T3 with _ | _
   all_goals
    go_wp2_with fail
    rw [← HBF.out]
    refine Handed.intro (m1 - (k + 1)) (by omega) (hJ1 _ _ _ (LpI4.back 113 15 16 17 ?_ (by kernel_rfl)))
    dsimp only [gt]
    exact ⟨k + 1, by go_num, by omega, rfl, by rw [HA1.out]; rfl, by rw [HA2.out]; rfl, by rw [HA3.out]; rfl, HMn, HWn⟩
  have q1 : decide (k < m1) = false := by simpa using hkl
  have hkm : k = m1 := by omega
  obtain ⟨l1, l2, l3⟩ := lock_fin HFL.out H4.out (show fs.length = k by rw [HFN.out]; exact hkm.symm)
  rw [l1, l2, l3]
  clear hkm l1 l2 l3
  have HO := Lib.hid (HMO.out _ HWr.out)
  have r0 := HO.out.1.c0
  have r1 := HO.out.1.c1
  have hn1 := HN1.out
  go_upto_region 25 with (fail)
  clear q1
  rw [hn1] at r0
  clear hn1
  go_wp2_with fail
  clear r0 r1
  refine (ints_any A2 As n2 c2 nd cs wr.heap.size wr.heap.size s s wr HO.out.2.2.1 HMr.out.s (Nat.le_refl _) (Nat.le_refl _)).mono ?_
  rintro e w13 ⟨rfl, hb13⟩
  rw [show decide (s = s) = true from decide_eq_true rfl]
  have HM13 := Lib.hid (HMr.out.later hb13)
  have HO13 := Lib.hid (HMO.out _ (HMK.out HWr.out hb13))
  clear hb13 HMr HWr HO
  have r3 : w13.cell? ⟨ra, 3, none⟩ = some (.slice A3 0 c3) := by rw [← HN3L.out]; exact HO13.out.1.cell 3
  have t3 : w13.cell? ⟨rb, 3, none⟩ = some (.slice B3 1 e3) := by rw [← HM3L.out]; exact HO13.out.2.1.cell 3
  go_wp2_with fail
  clear r3 t3
  refine (awake_any w13 HM13.out.n.la).mono ?_
  rintro e w14 ⟨rfl, hb⟩
  go_wp2_with fail
  go_ret
  exact ⟨rfl, HM13.out.n.bl.trans (hb.mono HM13.out.n.bl.size)⟩
end Go.Proofs.YtkkobemhbicjgaaGreatDoor
