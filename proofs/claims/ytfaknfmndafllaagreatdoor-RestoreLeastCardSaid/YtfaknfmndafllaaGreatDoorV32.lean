import Derived.Test.YtfaknfmndafllaaGreatDoorV31
import Derived.Test.YtfaknfmndafllaaGreatDoorV19
set_option maxRecDepth 100000
set_option maxHeartbeats 8000000
namespace Go.Proofs.YtfaknfmndafllaaGreatDoor
open Go.RowKit
theorem lor_live {nn : Nat} {ds : List Dv} {s c : List Int} (hc : IsCols nn ds s c) {a b : Nat} (ha : a < nn) (hb : b < nn) : liveB (bits .or .i64 (c.getD a 0) (c.getD b 0)) = (liveB (c.getD a 0) || liveB (c.getD b 0)) := by
 rw [getD_of (hc.2 a ha), getD_of (hc.2 b hb)]
 unfold colV
 rcases ind_cases (HasK liveK ds s a) 1 with ⟨_, e1⟩ | ⟨_, e1⟩ <;> rcases ind_cases (HasK (· = 4) ds s a) 2 with ⟨_, e2⟩ | ⟨_, e2⟩ <;> rcases ind_cases (HasK liveK ds s b) 1 with ⟨_, e3⟩ | ⟨_, e3⟩ <;> rcases ind_cases (HasK (· = 4) ds s b) 2 with ⟨_, e4⟩ | ⟨_, e4⟩ <;> rw [e1, e2, e3, e4] <;> kernel_rfl
theorem duty_five (kd a b : Int) (ns : List Nd) (parts op cl : List Int) : dutyV kd a b ns parts op cl = 0 ∨ dutyV kd a b ns parts op cl = 1 ∨ dutyV kd a b ns parts op cl = 2 ∨ dutyV kd a b ns parts op cl = 3 ∨ dutyV kd a b ns parts op cl = 4 := by
 unfold dutyV
 split
 ·simp
 split
 ·simp
 split
 ·simp
 split <;> simp
theorem rbad_any (An Ad As : Option Addr) (nn cn nd cd n c i : Nat) (ns : List Nd) (ds : List Dv) (s : List Int) (p : Int) (x : Dv) (w : World) (h : HzMem w An Ad As none none nn cn nd cd n c 0 0 0 0 ns ds s [] []) (h0 : stateErr ns ds s = 0) (hx : ds[i]? = some x) (hp : p = 1 ∨ p = 2) :
 Calls Tryz.prog 125 #[.agg #[.slice An nn cn, .slice Ad nd cd], .slice As n c, .agg #[.int .i64 i, .int .i64 p]] w fun e w' => e = .returned (.bool (badB x.kind p (dutyAt nn ns ds s i x) (lvE (colsOf nn ds s) x))) ∧ Below w.heap.size w w' := by
 obtain ⟨hln, hld, hls⟩ := h.ln
 subst hln
 have hN := NetOk.of (stateErr_net h0).1
 have hsl := (stateErr_net h0).2
 have hxm := List.mem_of_getElem? hx
 have ha0 := hN.a x hxm
 have hk0 := hN.k x hxm
 have hb0 : joinsB x.kind = true → 0 ≤ x.b ∧ x.b < ns.length := fun hj => (hN.e x hxm hj).2
 have hi : i < nd := by have := (List.getElem?_eq_some_iff.1 hx).1; omega
 have hnl := hN.nl
 have hdl := hN.dl
 have HN := Lib.hid hN
 have HLS := Lib.hid hls
 have hndn : nd ≤ n ∧ n ≤ nd := by omega
 have HB : Hid (Below w.heap.size w ((w.alloc (.cells #[.slice An ns.length cn, .slice Ad nd cd] 30)).alloc (.cells #[.int .i64 i, .int .i64 p] 62))) := ((Below.refl _ _).alloc (Nat.le_refl _) _).alloc (by simp) _
 have HK := Lib.hid ((Blk.new w 30 #[.slice An ns.length cn, .slice Ad nd cd]).alloc (.cells #[.int .i64 i, .int .i64 p] 62))
 have HO := Lib.hid (Blk.new (w.alloc (.cells #[.slice An ns.length cn, .slice Ad nd cd] 30)) 62 #[.int .i64 i, .int .i64 p])
 have hsz : (w.alloc (.cells #[.slice An ns.length cn, .slice Ad nd cd] 30)).heap.size = w.heap.size + 1 := by simp
 rw [hsz] at HO
 have HH := Lib.hid h
 have HX := Lib.hid hx
 have H0 := Lib.hid h0
 clear h hN hxm hx h0 hsl hls
 go_enter Tryz.func125, Tryz.ntmps125
 go_upto_region 1 with (fail)
 clear hsz
 generalize World.alloc (World.alloc w _) _ = W at *
 obtain ⟨b0, off, x', rfl, hb, hx', hc⟩ := (HH.out.below HB.out).hd.at (k := i) (fun _ => rfl) (by decide) hi
 obtain rfl : x = x' := by have := HX.out; rw [this] at hx'; exact Option.some.inj hx'
 obtain ⟨nm, kd, a, b, co⟩ := x
 simp only at ha0 hb0 hk0
 obtain ⟨a, rfl⟩ := Int.eq_ofNat_of_zero_le ha0.1
 have han : a < ns.length := by omega
 have c0 : W.cell? ⟨b0, off + i * 5, none⟩ = some (.string nm) := hc 0 _ rfl
 have c1 : W.cell? ⟨b0, off + i * 5 + 1, none⟩ = some (.int .i64 kd) := hc 1 _ rfl
 have c2 : W.cell? ⟨b0, off + i * 5 + 2, none⟩ = some (.int .i64 a) := hc 2 _ rfl
 have c3 : W.cell? ⟨b0, off + i * 5 + 3, none⟩ = some (.int .i64 b) := hc 3 _ rfl
 have c4 : W.cell? ⟨b0, off + i * 5 + 4, none⟩ = some (.int .i64 co) := hc 4 _ rfl
 have k0 := HK.out.c0
 have k1 := HK.out.c1
 have o0 := HO.out.c0
 clear hc hx' ha0
 go_upto_region 2 with (fail)
 clear c0 c1 c2 c3 c4 k0 k1 o0
 have HKD := Lib.hid (Blk.new W 68 #[.string nm, .int .i64 kd, .int .i64 a, .int .i64 b, .int .i64 co])
 have HB2 := Lib.hid (HB.out.alloc HB.out.size (.cells #[.string nm, .int .i64 kd, .int .i64 a, .int .i64 b, .int .i64 co] 68))
 have HK2 := Lib.hid (HK.out.alloc (.cells #[.string nm, .int .i64 kd, .int .i64 a, .int .i64 b, .int .i64 co] 68))
 have HO2 := Lib.hid (HO.out.alloc (.cells #[.string nm, .int .i64 kd, .int .i64 a, .int .i64 b, .int .i64 co] 68))
 generalize World.alloc W _ = w2 at *
 obtain ⟨db, hdb⟩ : ∃ x, x = W.heap.size := ⟨_, rfl⟩
 rw [← hdb] at HKD ⊢
 clear hdb HB HK HO hb
 have HM2 := Lib.hid (HH.out.below HB2.out)
 have k0 := HK2.out.c0
 have k1 := HK2.out.c1
 have o0 := HO2.out.c0
 go_wp2_with fail
 clear k0 k1 o0
 refine (rOf_ok An (some ⟨b0, off, none⟩) As ns.length cn nd cd n c i ns ds s _ w2 HM2.out H0.out HX.out).mono ?_
 rintro e w3 ⟨rfl, hb3⟩
 have HB3 := Lib.hid (HB2.out.trans (hb3.mono HB2.out.size))
 have HK3 := Lib.hid (HK2.out.below hb3 HK2.out.lt)
 have HO3 := Lib.hid (HO2.out.below hb3 HO2.out.lt)
 have HD3 := Lib.hid (HKD.out.below hb3 HKD.out.lt)
 have HM3 := Lib.hid (HM2.out.below hb3)
 obtain ⟨du, hdu⟩ : ∃ du, du = dutyAt ns.length ns ds s i ⟨nm, kd, a, b, co⟩ := ⟨_, rfl⟩
 have HDU : Hid (du = 0 ∨ du = 1 ∨ du = 2 ∨ du = 3 ∨ du = 4) := by rw [hdu]; exact duty_five ..
 rw [← hdu]
 have HDE := Lib.hid hdu
 clear hb3 HB2 HK2 HO2 HKD HM2 hdu
 have d1 := HD3.out.c1
 have o1 := HO3.out.c1
 obtain rfl | rfl | rfl | rfl | rfl | rfl : kd = 1 ∨ kd = 2 ∨ kd = 3 ∨ kd = 4 ∨ kd = 5 ∨ kd = 6 := by omega
 ·obtain ⟨b, rfl⟩ := Int.eq_ofNat_of_zero_le (hb0 (by kernel_rfl)).1
  have hbn : b < ns.length := by have := (hb0 (by kernel_rfl)).2; omega
  have k0 := HK3.out.c0
  have k1 := HK3.out.c1
  go_wp2_with fail
  clear k0 k1 d1 o1
  refine (rcols_any An (some ⟨b0, off, none⟩) As ns.length cn nd cd n c w3.heap.size w3.heap.size w3.heap.size ns ds s w3 HM3.out.hn HM3.out.hd HM3.out.hs (Nat.le_refl _) (Nat.le_refl _) (Nat.le_refl _) HM3.out.sn HM3.out.sd (by omega) (fun _ => ⟨by omega, HN.out.e, HN.out.ne⟩) (fun _ => ⟨HN.out.a, HN.out.k⟩)).mono ?_
  (rintro e w4 ⟨hb4, ⟨hne, -⟩ | ⟨-, AC, CL, rfl, hOC, hIC⟩⟩; exact absurd H0.out hne)
  have HB4 := Lib.hid (HB3.out.trans (hb4.out.mono HB3.out.size))
  have HD4 := Lib.hid (HD3.out.below hb4.out HD3.out.lt)
  obtain ⟨g, rfl, -, hg⟩ := own_some hOC.out (by omega)
  have hCa := ints_cell hOC.out han
  have hCb := ints_cell hOC.out hbn
  have HLV : Hid (lvE (colsOf ns.length ds s) ⟨nm, 1, a, b, co⟩ = (liveB (gI CL a) || liveB (gI CL b))) := by unfold Hid lvE; rw [colsOf_eq hIC.out]; exact lor_live hIC.out han hbn
  have d2 := HD4.out.c2
  have d3 := HD4.out.c3
  have hLA : liveB (gI CL a) = (bits BinOp.and IntKind.i64 (gI CL a) 1 != 0) := rfl
  have hLB : liveB (gI CL b) = (bits BinOp.and IntKind.i64 (gI CL b) 1 != 0) := rfl
  rw [hLA, hLB] at HLV
  clear hb4 hOC hIC HB3 HK3 HO3 HD3 HM3 hLA hLB
  rcases hl : (bits BinOp.and IntKind.i64 (gI CL a) 1 != 0) with _ | _
  ·rw [hl, Bool.false_or] at HLV
   go_wp2_with fail
   go_ret
   exact ⟨ret_bool (by rw [HLV.out]; rfl), HB4.out⟩
  ·rw [hl, Bool.true_or] at HLV
   go_wp2_with fail
   go_ret
   exact ⟨ret_bool (by rw [HLV.out]; rfl), HB4.out⟩
 ·go_wp2_with fail
  go_ret
  exact ⟨ret_bool (by rw [← HDE.out]; rfl), HB3.out⟩
 ·rcases HDU.out with rfl | rfl | rfl | rfl | rfl
  all_goals
   go_wp2_with fail
   go_ret
   exact ⟨ret_bool (by rw [← HDE.out]; rfl), HB3.out⟩
 ·rcases HDU.out with rfl | rfl | rfl | rfl | rfl <;> rcases hp with rfl | rfl
  all_goals
   go_wp2_with fail
   go_ret
   exact ⟨ret_bool (by rw [← HDE.out]; rfl), HB3.out⟩
 ·go_wp2_with fail
  go_ret
  exact ⟨ret_bool (by rw [← HDE.out]; rfl), HB3.out⟩
 ·rcases HDU.out with rfl | rfl | rfl | rfl | rfl <;> rcases hp with rfl | rfl
  all_goals
   go_wp2_with fail
   go_ret
   exact ⟨ret_bool (by rw [← HDE.out]; rfl), HB3.out⟩
end Go.Proofs.YtfaknfmndafllaaGreatDoor
