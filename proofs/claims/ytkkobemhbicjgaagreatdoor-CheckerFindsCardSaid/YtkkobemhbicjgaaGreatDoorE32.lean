import Derived.Test.YtkkobemhbicjgaaGreatDoorE31
set_option maxRecDepth 100000
set_option maxHeartbeats 16000000
namespace Go.Proofs.YtkkobemhbicjgaaGreatDoor
open Go.RowKit
theorem Bst.put {w wr : World} {nt gr st : Array Value} {g i : Nat} {u : Value} (h : Bst w nt gr st wr) (hg : w.heap.size + 3 < g) : Bst w nt gr st (wr.setCell ⟨g, i, none⟩ u) :=
 ⟨h.b0.far (by show w.heap.size ≠ g; omega) _, h.b1.far (by show w.heap.size + 1 ≠ g; omega) _, h.b2.far (by show w.heap.size + 2 ≠ g; omega) _, h.b3.far (by show w.heap.size + 3 ≠ g; omega) _, h.bl.setCell (by show w.heap.size ≤ g; omega) _⟩
theorem qA (An Ad As Al Ap : Option Addr) (nn cn nd cd n c nl cl np cp : Nat) (ns : List Nd) (ds : List Dv) (s : List Int) (ls : List Lk) (pr : List Int) (co k d no p q : Int) (w : World) (h : yX w An Ad As Al Ap nn cn nd cd n c nl cl np cp ns ds s ls pr) (hok : tJ ns ds ⟨s, ls, pr⟩) (_hco : 0 ≤ co ∧ co ≤ 7) (hx : zT ns.length ds.length ⟨k, d, no, p, q⟩ = 0) (hk : k = 1) :
 Calls Tryz.prog 71 #[.agg #[.slice An nn cn, .slice Ad nd cd], .slice As n c, .agg #[.int .i64 co, .slice Al nl cl, .slice Ap np cp], .agg #[.int .i64 k, .int .i64 d, .int .i64 no, .int .i64 p, .int .i64 q]] w (uO w As Al Ap n nl np co (zd ns ds co ⟨s, ls, pr⟩ ⟨k, d, no, p, q⟩)) := by
 have HK := iD hk
 clear hk
 obtain ⟨hln, hld, hls⟩ := h.ln
 have hlp : pr.length = np := h.hp.len (fun _ => rfl) (by decide)
 have HH := iD h
 have HB := iD (Bst.new w #[.slice An nn cn, .slice Ad nd cd] #[.int .i64 co, .slice Al nl cl, .slice Ap np cp] #[.int .i64 k, .int .i64 d, .int .i64 no, .int .i64 p, .int .i64 q])
 obtain ⟨hx1, hx2, hx3, hx4, hx5⟩ := yE hx
 dsimp only at hx1 hx2 hx3 hx4 hx5
 obtain ⟨hcn, hsl⟩ := zp hok.s
 have HNK := iD (yt.of hcn)
 have HOK := iD hok
 have hnn : nn ≤ 32 := by have := HNK.out.nl; omega
 have hnd : nd ≤ 64 := by have := HNK.out.dl; omega
 dsimp only at hsl
 clear h hok hx hcn
 go_enter Tryz.func71, Tryz.ntmps71
 go_upto_region 1 with (fail)
 generalize World.alloc (World.alloc (World.alloc (World.alloc w _) _) _) _ = W at *
 rw [show w.heap.size + 1 + 1 = w.heap.size + 2 from rfl, show w.heap.size + 2 + 1 = w.heap.size + 3 from rfl]
 have HM := iD (HH.out.below HB.out.bl)
 obtain ⟨⟨k0, k1⟩, ⟨g0, g1, g2⟩, s0, s1, s2, s3, s4⟩ := HB.out.cells
 have hk := HK.out
 clear HK
 subst hk
 have hlt := hx2 (by decide)
 obtain ⟨i, rfl⟩ := Int.eq_ofNat_of_zero_le hlt.1
 have hi : i < nd := by omega
 have HIE : Hid (vT ns ds s i 1 co = 0) := by unfold Hid vT yc; rw [if_pos HOK.out.s, if_neg (by omega), if_neg (by omega), if_neg (by omega), if_neg (by omega), if_neg (by omega)]
 go_wp2_with fail
 clear k0 k1 g0 g1 g2 s0 s1 s2 s3 s4
 refine (wO 1 i no p q W (by decide)).mono ?_
 rintro e w1 ⟨rfl, hb1⟩
 have HB1 := iD (HB.out.later hb1)
 clear hb1 HB HM
 go_upto_region 5 with (fail)
 have HBV := iD (HB1.out.later ((Below.refl _ w1).alloc lR (.cells #[.int .i64 i, .int .i64 1] 77)))
 have HOP := iD (Blk.new w1 77 #[.int .i64 i, .int .i64 1])
 have HOB : Hid (w.heap.size + 3 < w1.heap.size) := HB1.out.b3.lt
 clear HB1
 generalize World.alloc w1 _ = V at *
 obtain ⟨ob, hob⟩ : ∃ x, x = w1.heap.size := ⟨_, rfl⟩
 rw [← hob] at HOP HOB ⊢
 clear hob
 have HIN := iD (ju An Ad As Al Ap nn cn nd cd n c nl cl np cp ns ds s ls pr i 1 co V (HH.out.below HBV.out.bl))
 obtain ⟨⟨k0, k1⟩, ⟨g0, g1, g2⟩, s0, s1, s2, s3, s4⟩ := HBV.out.cells
 have o0 := HOP.out.cell 0
 have o1 := HOP.out.cell 1
 go_wp2_with fail
 clear k0 k1 g0 g1 g2 s0 s1 s2 s3 s4 o0 o1
 refine HIN.out.mono ?_
 rintro e w2 ⟨⟨h1, rfl⟩ | ⟨h1, A1, m1, c1, x, hx, rfl, hO⟩, hb2⟩
 ·exact absurd HIE.out h1
 have HB2 := iD (HBV.out.later hb2.out)
 have HOP2 := iD (HOP.out.below hb2.out HOP.out.lt)
 have HHZ : Hid (hzD ns ds s i 1 co ls pr = xu ns.length ns ds s (i : Int).toNat 1 co ls pr x) := by unfold Hid hzD; rw [hx]
 have HS1 := iD (Sl.of_own hO.out)
 have HN1 : Hid (∀ b off, A1 = some ⟨b, off, none⟩ → b ≠ w.heap.size + 3) := fun b off e => by
  have h := (hO.out.lt b (by rw [e]; rfl)).1
  have := HBV.out.b3.lt; omega
 have HF1 : Hid (∀ b off, A1 = some ⟨b, off, none⟩ → w.heap.size ≤ b) := fun b off e => by
  have h := (hO.out.lt b (by rw [e]; rfl)).1
  have := HBV.out.bl.size; omega
 have hl2 : V.heap.size ≤ w2.heap.size := hb2.out.size
 have HV3 : Hid (w.heap.size + 3 < V.heap.size) := HBV.out.b3.lt
 clear h1 hx hO hb2 HIN HBV HOP HIE
 go_wp2_with fail
 refine (yQ As n c w2.heap.size s w2 (HH.out.below HB2.out.bl).hs lR (by omega)).mono ?_
 rintro e w3 ⟨A2, c2, rfl, hO2, hb3⟩
 rw [hls] at hO2 ⊢
 have HB3 := iD (HB2.out.later hb3.out)
 have HOP3 := iD (HOP2.out.below hb3.out HOP2.out.lt)
 have HS3 := iD (HS1.out.below hb3.out lR)
 have HZ3 : Hid (w2.heap.size ≤ w3.heap.size) := hb3.out.size
 obtain ⟨g, y, rfl, hg1, hg2, hy, hcy, hfy, hset⟩ := hO2.out.at (show i < n by omega)
 have HBX := iD (HB3.out.put (g := g) (i := i) (u := .int .i64 1) (by have := HV3.out; omega))
 have HOPX := iD (HOP3.out.far (p := ⟨g, i, none⟩) (show ob ≠ g by have := HOP2.out.lt; omega) (.int .i64 1))
 have HSX := iD (HS3.out.setCell (p := ⟨g, i, none⟩) hg1 (.int .i64 1))
 have HTX := iD (Sl.of_own (hset 1))
 have HF2 : Hid (w.heap.size ≤ g) := by unfold Hid; have := HV3.out; omega
 have HNT : Hid (g ≠ w.heap.size + 3) := by unfold Hid; have := HV3.out; omega
 have hzx : (w3.setCell ⟨g, i, none⟩ (.int .i64 1)).heap.size = w3.heap.size := by simp [World.setCell]
 have o0 := HOP3.out.cell 0
 have o1 := HOP3.out.cell 1
 go_upto_region 8 with (fail)
 clear hO2 hb3 HB2 HOP2 HS1 HB3 HOP3 HS3 hset hcy hfy hy o0 o1
 have HZX : Hid (w2.heap.size ≤ (w3.setCell ⟨g, i, none⟩ (.int .i64 1)).heap.size) := by unfold Hid; rw [hzx]; exact HZ3.out
 clear hzx hg2
 generalize World.setCell w3 _ _ = X at *
 have HOD := iD (wj An Ad Al Ap nn cn nd cd nl cl np cp ds co i 1 X (HH.out.below HBX.out.bl).hd (by decide) (by omega) (by omega))
 obtain ⟨⟨k0, k1⟩, ⟨g0, g1, g2⟩, s0, s1, s2, s3, s4⟩ := HBX.out.cells
 have o0 := HOPX.out.cell 0
 have o1 := HOPX.out.cell 1
 go_wp2_with fail
 clear k0 k1 g0 g1 g2 s0 s1 s2 s3 s4 o0 o1
 refine HOD.out.mono ?_
 rintro e w4 ⟨rfl, hb4⟩
 have HB4 := iD (HBX.out.later hb4)
 have HS4 := iD (((HSX.out.more HZX.out).below hb4 lR).more hb4.size)
 have HT4 := iD ((HTX.out.below hb4 lR).more hb4.size)
 clear hb4 HOD HBX HOPX HSX HTX
 rcases hcb : vX ds 1 i with _ | _
 ·simp only [rX, Bool.false_eq_true, if_false]
  have HT : Hid (zd ns ds co ⟨s, ls, pr⟩ ⟨1, i, no, p, q⟩ = ⟨hzD ns ds s i 1 co ls pr, ⟨s.set (i : Int).toNat 1, ls, pr⟩, true⟩) := by unfold Hid; rw [nu ns ds co ⟨s, ls, pr⟩ i no p q (by decide), hcb]; rfl
  clear hcb
  have d0 := HB4.out.b3.cell 0
  have d1 := HB4.out.b3.cell 1
  have d2 := HB4.out.b3.cell 2
  have y0 := HB4.out.b3.frozen 0
  have y1 := HB4.out.b3.frozen 1
  have y2 := HB4.out.b3.frozen 2
  have HE := iD (HB4.out.fin (x := .int .i64 co) (y := .slice Al nl cl) (z := .slice Ap np cp))
  have HSO : Hid (yZ (((w4.setCell ⟨w.heap.size + 3, 0, none⟩ (.int .i64 co)).setCell ⟨w.heap.size + 3, 1, none⟩ (.slice Al nl cl)).setCell ⟨w.heap.size + 3, 2, none⟩ (.slice Ap np cp)) A1 (some ⟨g, 0, none⟩) Al Ap m1 c1 n c2 nl cl np cp ⟨hzD ns ds s i 1 co ls pr, ⟨s.set (i : Int).toNat 1, ls, pr⟩, true⟩) := by
   refine ⟨?_, ?_, (HH.out.below HE.out.2).hl, (HH.out.below HE.out.2).hp⟩
   ·dsimp only; rw [HHZ.out]; exact sl3 HS4.out HN1.out
   ·dsimp only; rw [Int.toNat_natCast]; exact sl3 HT4.out (fun b off e => by injection e with e; injection e with e1 e2; rw [← e1]; exact HNT.out)
  go_wp2_with fail
  clear d0 d1 d2 y0 y1 y2
  generalize World.setCell (World.setCell (World.setCell w4 _ _) _ _) _ _ = z at *
  have q0 := HE.out.1.c0
  have q1 := HE.out.1.c1
  have q2 := HE.out.1.c2
  exact bodyPost_ret (v := .tuple #[.slice A1 m1 c1, .slice (some ⟨g, 0, none⟩) n c2, .agg #[.int .i64 co, .slice Al nl cl, .slice Ap np cp], .bool true]) (by simp [results, Tryz.results71, go_sem, q0, q1, q2]) rfl ⟨_, _, _, _, _, _, _, _, _, _, _, _, by rw [HT.out], by rw [HT.out]; exact HSO, ⟨.inr HF1.out, .inr (fun b off e => by injection e with e; injection e with e1 e2; rw [← e1]; exact HF2.out), .inl ⟨rfl, rfl⟩, .inl ⟨rfl, rfl⟩⟩, HE.out.2⟩
 ·simp only [rX, if_true]
  have HT : Hid (zd ns ds co ⟨s, ls, pr⟩ ⟨1, i, no, p, q⟩ = ⟨hzD ns ds s i 1 co ls pr, ⟨s.set (i : Int).toNat 1, ls, []⟩, true⟩) := by unfold Hid; rw [nu ns ds co ⟨s, ls, pr⟩ i no p q (by decide), hcb]; rfl
  clear hcb
  have d0 := HB4.out.b3.cell 0
  have d1 := HB4.out.b3.cell 1
  have d2 := HB4.out.b3.cell 2
  have y0 := HB4.out.b3.frozen 0
  have y1 := HB4.out.b3.frozen 1
  have y2 := HB4.out.b3.frozen 2
  have HE := iD (HB4.out.fin (x := .int .i64 co) (y := .slice Al nl cl) (z := .slice none 0 0))
  have HSO : Hid (yZ (((w4.setCell ⟨w.heap.size + 3, 0, none⟩ (.int .i64 co)).setCell ⟨w.heap.size + 3, 1, none⟩ (.slice Al nl cl)).setCell ⟨w.heap.size + 3, 2, none⟩ (.slice none 0 0)) A1 (some ⟨g, 0, none⟩) Al none m1 c1 n c2 nl cl 0 0 ⟨hzD ns ds s i 1 co ls pr, ⟨s.set (i : Int).toNat 1, ls, []⟩, true⟩) := by
   refine ⟨?_, ?_, (HH.out.below HE.out.2).hl, Sl.nil _ _ _⟩
   ·dsimp only; rw [HHZ.out]; exact sl3 HS4.out HN1.out
   ·dsimp only; rw [Int.toNat_natCast]; exact sl3 HT4.out (fun b off e => by injection e with e; injection e with e1 e2; rw [← e1]; exact HNT.out)
  go_wp2_with fail
  clear d0 d1 d2 y0 y1 y2
  generalize World.setCell (World.setCell (World.setCell w4 _ _) _ _) _ _ = z at *
  have q0 := HE.out.1.c0
  have q1 := HE.out.1.c1
  have q2 := HE.out.1.c2
  exact bodyPost_ret (v := .tuple #[.slice A1 m1 c1, .slice (some ⟨g, 0, none⟩) n c2, .agg #[.int .i64 co, .slice Al nl cl, .slice none 0 0], .bool true]) (by simp [results, Tryz.results71, go_sem, q0, q1, q2]) rfl ⟨_, _, _, _, _, _, _, _, _, _, _, _, by rw [HT.out], by rw [HT.out]; exact HSO, ⟨.inr HF1.out, .inr (fun b off e => by injection e with e; injection e with e1 e2; rw [← e1]; exact HF2.out), .inl ⟨rfl, rfl⟩, .inr (fun b off e => by cases e)⟩, HE.out.2⟩
theorem rC (An Ad As Al Ap : Option Addr) (nn cn nd cd n c nl cl np cp : Nat) (ns : List Nd) (ds : List Dv) (s : List Int) (ls : List Lk) (pr : List Int) (co k d no p q : Int) (w : World) (h : yX w An Ad As Al Ap nn cn nd cd n c nl cl np cp ns ds s ls pr) (hok : tJ ns ds ⟨s, ls, pr⟩) (_hco : 0 ≤ co ∧ co ≤ 7) (hx : zT ns.length ds.length ⟨k, d, no, p, q⟩ = 0) (hk : k = 2) :
 Calls Tryz.prog 71 #[.agg #[.slice An nn cn, .slice Ad nd cd], .slice As n c, .agg #[.int .i64 co, .slice Al nl cl, .slice Ap np cp], .agg #[.int .i64 k, .int .i64 d, .int .i64 no, .int .i64 p, .int .i64 q]] w (uO w As Al Ap n nl np co (zd ns ds co ⟨s, ls, pr⟩ ⟨k, d, no, p, q⟩)) := by
 have HK := iD hk
 clear hk
 obtain ⟨hln, hld, hls⟩ := h.ln
 have hlp : pr.length = np := h.hp.len (fun _ => rfl) (by decide)
 have HH := iD h
 have HB := iD (Bst.new w #[.slice An nn cn, .slice Ad nd cd] #[.int .i64 co, .slice Al nl cl, .slice Ap np cp] #[.int .i64 k, .int .i64 d, .int .i64 no, .int .i64 p, .int .i64 q])
 obtain ⟨hx1, hx2, hx3, hx4, hx5⟩ := yE hx
 dsimp only at hx1 hx2 hx3 hx4 hx5
 obtain ⟨hcn, hsl⟩ := zp hok.s
 have HNK := iD (yt.of hcn)
 have HOK := iD hok
 have hnn : nn ≤ 32 := by have := HNK.out.nl; omega
 have hnd : nd ≤ 64 := by have := HNK.out.dl; omega
 dsimp only at hsl
 clear h hok hx hcn
 go_enter Tryz.func71, Tryz.ntmps71
 go_upto_region 1 with (fail)
 generalize World.alloc (World.alloc (World.alloc (World.alloc w _) _) _) _ = W at *
 rw [show w.heap.size + 1 + 1 = w.heap.size + 2 from rfl, show w.heap.size + 2 + 1 = w.heap.size + 3 from rfl]
 have HM := iD (HH.out.below HB.out.bl)
 obtain ⟨⟨k0, k1⟩, ⟨g0, g1, g2⟩, s0, s1, s2, s3, s4⟩ := HB.out.cells
 have hk := HK.out
 clear HK
 subst hk
 have hlt := hx2 (by decide)
 obtain ⟨i, rfl⟩ := Int.eq_ofNat_of_zero_le hlt.1
 have hi : i < nd := by omega
 have HIE : Hid (vT ns ds s i 2 co = 0) := by unfold Hid vT yc; rw [if_pos HOK.out.s, if_neg (by omega), if_neg (by omega), if_neg (by omega), if_neg (by omega), if_neg (by omega)]
 go_wp2_with fail
 clear k0 k1 g0 g1 g2 s0 s1 s2 s3 s4
 refine (wO 2 i no p q W (by decide)).mono ?_
 rintro e w1 ⟨rfl, hb1⟩
 have HB1 := iD (HB.out.later hb1)
 clear hb1 HB HM
 go_upto_region 5 with (fail)
 have HBV := iD (HB1.out.later ((Below.refl _ w1).alloc lR (.cells #[.int .i64 i, .int .i64 2] 77)))
 have HOP := iD (Blk.new w1 77 #[.int .i64 i, .int .i64 2])
 have HOB : Hid (w.heap.size + 3 < w1.heap.size) := HB1.out.b3.lt
 clear HB1
 generalize World.alloc w1 _ = V at *
 obtain ⟨ob, hob⟩ : ∃ x, x = w1.heap.size := ⟨_, rfl⟩
 rw [← hob] at HOP HOB ⊢
 clear hob
 have HIN := iD (ju An Ad As Al Ap nn cn nd cd n c nl cl np cp ns ds s ls pr i 2 co V (HH.out.below HBV.out.bl))
 obtain ⟨⟨k0, k1⟩, ⟨g0, g1, g2⟩, s0, s1, s2, s3, s4⟩ := HBV.out.cells
 have o0 := HOP.out.cell 0
 have o1 := HOP.out.cell 1
 go_wp2_with fail
 clear k0 k1 g0 g1 g2 s0 s1 s2 s3 s4 o0 o1
 refine HIN.out.mono ?_
 rintro e w2 ⟨⟨h1, rfl⟩ | ⟨h1, A1, m1, c1, x, hx, rfl, hO⟩, hb2⟩
 ·exact absurd HIE.out h1
 have HB2 := iD (HBV.out.later hb2.out)
 have HOP2 := iD (HOP.out.below hb2.out HOP.out.lt)
 have HHZ : Hid (hzD ns ds s i 2 co ls pr = xu ns.length ns ds s (i : Int).toNat 2 co ls pr x) := by unfold Hid hzD; rw [hx]
 have HS1 := iD (Sl.of_own hO.out)
 have HN1 : Hid (∀ b off, A1 = some ⟨b, off, none⟩ → b ≠ w.heap.size + 3) := fun b off e => by
  have h := (hO.out.lt b (by rw [e]; rfl)).1
  have := HBV.out.b3.lt; omega
 have HF1 : Hid (∀ b off, A1 = some ⟨b, off, none⟩ → w.heap.size ≤ b) := fun b off e => by
  have h := (hO.out.lt b (by rw [e]; rfl)).1
  have := HBV.out.bl.size; omega
 have hl2 : V.heap.size ≤ w2.heap.size := hb2.out.size
 have HV3 : Hid (w.heap.size + 3 < V.heap.size) := HBV.out.b3.lt
 clear h1 hx hO hb2 HIN HBV HOP HIE
 go_wp2_with fail
 refine (yQ As n c w2.heap.size s w2 (HH.out.below HB2.out.bl).hs lR (by omega)).mono ?_
 rintro e w3 ⟨A2, c2, rfl, hO2, hb3⟩
 rw [hls] at hO2 ⊢
 have HB3 := iD (HB2.out.later hb3.out)
 have HOP3 := iD (HOP2.out.below hb3.out HOP2.out.lt)
 have HS3 := iD (HS1.out.below hb3.out lR)
 have HZ3 : Hid (w2.heap.size ≤ w3.heap.size) := hb3.out.size
 obtain ⟨g, y, rfl, hg1, hg2, hy, hcy, hfy, hset⟩ := hO2.out.at (show i < n by omega)
 have HBX := iD (HB3.out.put (g := g) (i := i) (u := .int .i64 2) (by have := HV3.out; omega))
 have HOPX := iD (HOP3.out.far (p := ⟨g, i, none⟩) (show ob ≠ g by have := HOP2.out.lt; omega) (.int .i64 2))
 have HSX := iD (HS3.out.setCell (p := ⟨g, i, none⟩) hg1 (.int .i64 2))
 have HTX := iD (Sl.of_own (hset 2))
 have HF2 : Hid (w.heap.size ≤ g) := by unfold Hid; have := HV3.out; omega
 have HNT : Hid (g ≠ w.heap.size + 3) := by unfold Hid; have := HV3.out; omega
 have hzx : (w3.setCell ⟨g, i, none⟩ (.int .i64 2)).heap.size = w3.heap.size := by simp [World.setCell]
 have o0 := HOP3.out.cell 0
 have o1 := HOP3.out.cell 1
 go_upto_region 8 with (fail)
 clear hO2 hb3 HB2 HOP2 HS1 HB3 HOP3 HS3 hset hcy hfy hy o0 o1
 have HZX : Hid (w2.heap.size ≤ (w3.setCell ⟨g, i, none⟩ (.int .i64 2)).heap.size) := by unfold Hid; rw [hzx]; exact HZ3.out
 clear hzx hg2
 generalize World.setCell w3 _ _ = X at *
 have HOD := iD (wj An Ad Al Ap nn cn nd cd nl cl np cp ds co i 2 X (HH.out.below HBX.out.bl).hd (by decide) (by omega) (by omega))
 obtain ⟨⟨k0, k1⟩, ⟨g0, g1, g2⟩, s0, s1, s2, s3, s4⟩ := HBX.out.cells
 have o0 := HOPX.out.cell 0
 have o1 := HOPX.out.cell 1
 go_wp2_with fail
 clear k0 k1 g0 g1 g2 s0 s1 s2 s3 s4 o0 o1
 refine HOD.out.mono ?_
 rintro e w4 ⟨rfl, hb4⟩
 have HB4 := iD (HBX.out.later hb4)
 have HS4 := iD (((HSX.out.more HZX.out).below hb4 lR).more hb4.size)
 have HT4 := iD ((HTX.out.below hb4 lR).more hb4.size)
 clear hb4 HOD HBX HOPX HSX HTX
 rcases hcb : vX ds 2 i with _ | _
 ·simp only [rX, Bool.false_eq_true, if_false]
  have HT : Hid (zd ns ds co ⟨s, ls, pr⟩ ⟨2, i, no, p, q⟩ = ⟨hzD ns ds s i 2 co ls pr, ⟨s.set (i : Int).toNat 2, ls, pr⟩, true⟩) := by unfold Hid; rw [nu ns ds co ⟨s, ls, pr⟩ i no p q (by decide), hcb]; rfl
  clear hcb
  have d0 := HB4.out.b3.cell 0
  have d1 := HB4.out.b3.cell 1
  have d2 := HB4.out.b3.cell 2
  have y0 := HB4.out.b3.frozen 0
  have y1 := HB4.out.b3.frozen 1
  have y2 := HB4.out.b3.frozen 2
  have HE := iD (HB4.out.fin (x := .int .i64 co) (y := .slice Al nl cl) (z := .slice Ap np cp))
  have HSO : Hid (yZ (((w4.setCell ⟨w.heap.size + 3, 0, none⟩ (.int .i64 co)).setCell ⟨w.heap.size + 3, 1, none⟩ (.slice Al nl cl)).setCell ⟨w.heap.size + 3, 2, none⟩ (.slice Ap np cp)) A1 (some ⟨g, 0, none⟩) Al Ap m1 c1 n c2 nl cl np cp ⟨hzD ns ds s i 2 co ls pr, ⟨s.set (i : Int).toNat 2, ls, pr⟩, true⟩) := by
   refine ⟨?_, ?_, (HH.out.below HE.out.2).hl, (HH.out.below HE.out.2).hp⟩
   ·dsimp only; rw [HHZ.out]; exact sl3 HS4.out HN1.out
   ·dsimp only; rw [Int.toNat_natCast]; exact sl3 HT4.out (fun b off e => by injection e with e; injection e with e1 e2; rw [← e1]; exact HNT.out)
  go_wp2_with fail
  clear d0 d1 d2 y0 y1 y2
  generalize World.setCell (World.setCell (World.setCell w4 _ _) _ _) _ _ = z at *
  have q0 := HE.out.1.c0
  have q1 := HE.out.1.c1
  have q2 := HE.out.1.c2
  exact bodyPost_ret (v := .tuple #[.slice A1 m1 c1, .slice (some ⟨g, 0, none⟩) n c2, .agg #[.int .i64 co, .slice Al nl cl, .slice Ap np cp], .bool true]) (by simp [results, Tryz.results71, go_sem, q0, q1, q2]) rfl ⟨_, _, _, _, _, _, _, _, _, _, _, _, by rw [HT.out], by rw [HT.out]; exact HSO, ⟨.inr HF1.out, .inr (fun b off e => by injection e with e; injection e with e1 e2; rw [← e1]; exact HF2.out), .inl ⟨rfl, rfl⟩, .inl ⟨rfl, rfl⟩⟩, HE.out.2⟩
 ·simp only [rX, if_true]
  have HT : Hid (zd ns ds co ⟨s, ls, pr⟩ ⟨2, i, no, p, q⟩ = ⟨hzD ns ds s i 2 co ls pr, ⟨s.set (i : Int).toNat 2, ls, []⟩, true⟩) := by unfold Hid; rw [nu ns ds co ⟨s, ls, pr⟩ i no p q (by decide), hcb]; rfl
  clear hcb
  have d0 := HB4.out.b3.cell 0
  have d1 := HB4.out.b3.cell 1
  have d2 := HB4.out.b3.cell 2
  have y0 := HB4.out.b3.frozen 0
  have y1 := HB4.out.b3.frozen 1
  have y2 := HB4.out.b3.frozen 2
  have HE := iD (HB4.out.fin (x := .int .i64 co) (y := .slice Al nl cl) (z := .slice none 0 0))
  have HSO : Hid (yZ (((w4.setCell ⟨w.heap.size + 3, 0, none⟩ (.int .i64 co)).setCell ⟨w.heap.size + 3, 1, none⟩ (.slice Al nl cl)).setCell ⟨w.heap.size + 3, 2, none⟩ (.slice none 0 0)) A1 (some ⟨g, 0, none⟩) Al none m1 c1 n c2 nl cl 0 0 ⟨hzD ns ds s i 2 co ls pr, ⟨s.set (i : Int).toNat 2, ls, []⟩, true⟩) := by
   refine ⟨?_, ?_, (HH.out.below HE.out.2).hl, Sl.nil _ _ _⟩
   ·dsimp only; rw [HHZ.out]; exact sl3 HS4.out HN1.out
   ·dsimp only; rw [Int.toNat_natCast]; exact sl3 HT4.out (fun b off e => by injection e with e; injection e with e1 e2; rw [← e1]; exact HNT.out)
  go_wp2_with fail
  clear d0 d1 d2 y0 y1 y2
  generalize World.setCell (World.setCell (World.setCell w4 _ _) _ _) _ _ = z at *
  have q0 := HE.out.1.c0
  have q1 := HE.out.1.c1
  have q2 := HE.out.1.c2
  exact bodyPost_ret (v := .tuple #[.slice A1 m1 c1, .slice (some ⟨g, 0, none⟩) n c2, .agg #[.int .i64 co, .slice Al nl cl, .slice none 0 0], .bool true]) (by simp [results, Tryz.results71, go_sem, q0, q1, q2]) rfl ⟨_, _, _, _, _, _, _, _, _, _, _, _, by rw [HT.out], by rw [HT.out]; exact HSO, ⟨.inr HF1.out, .inr (fun b off e => by injection e with e; injection e with e1 e2; rw [← e1]; exact HF2.out), .inl ⟨rfl, rfl⟩, .inr (fun b off e => by cases e)⟩, HE.out.2⟩
theorem vM (An Ad As Al Ap : Option Addr) (nn cn nd cd n c nl cl np cp : Nat) (ns : List Nd) (ds : List Dv) (s : List Int) (ls : List Lk) (pr : List Int) (co k d no p q : Int) (w : World) (h : yX w An Ad As Al Ap nn cn nd cd n c nl cl np cp ns ds s ls pr) (hok : tJ ns ds ⟨s, ls, pr⟩) (hco : 0 ≤ co ∧ co ≤ 7) (hx : zT ns.length ds.length ⟨k, d, no, p, q⟩ = 0) :
 Calls Tryz.prog 71 #[.agg #[.slice An nn cn, .slice Ad nd cd], .slice As n c, .agg #[.int .i64 co, .slice Al nl cl, .slice Ap np cp], .agg #[.int .i64 k, .int .i64 d, .int .i64 no, .int .i64 p, .int .i64 q]] w (uO w As Al Ap n nl np co (zd ns ds co ⟨s, ls, pr⟩ ⟨k, d, no, p, q⟩)) := by
 have hx1 := (yE hx).1
 dsimp only at hx1
 rcases (show k = 1 ∨ k = 2 ∨ k = 3 ∨ k = 4 ∨ k = 5 ∨ k = 6 by omega) with hk | hk | hk | hk | hk | hk
 ·exact qA An Ad As Al Ap nn cn nd cd n c nl cl np cp ns ds s ls pr co k d no p q w h hok hco hx hk
 ·exact rC An Ad As Al Ap nn cn nd cd n c nl cl np cp ns ds s ls pr co k d no p q w h hok hco hx hk
 ·exact qB An Ad As Al Ap nn cn nd cd n c nl cl np cp ns ds s ls pr co k d no p q w h hok hco hx hk
 ·exact sF An Ad As Al Ap nn cn nd cd n c nl cl np cp ns ds s ls pr co k d no p q w h hok hco hx hk
 ·exact rB An Ad As Al Ap nn cn nd cd n c nl cl np cp ns ds s ls pr co k d no p q w h hok hco hx hk
 ·exact rD An Ad As Al Ap nn cn nd cd n c nl cl np cp ns ds s ls pr co k d no p q w h hok hco hx hk
end Go.Proofs.YtkkobemhbicjgaaGreatDoor
