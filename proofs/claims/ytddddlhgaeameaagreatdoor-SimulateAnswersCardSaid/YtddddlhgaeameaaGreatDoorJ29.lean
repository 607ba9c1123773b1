import Derived.Test.YtddddlhgaeameaaGreatDoorJ28
set_option maxRecDepth 100000
set_option maxHeartbeats 16000000
namespace Go.Proofs.YtddddlhgaeameaaGreatDoor
open Go.RowKit Tryz
theorem FE.put {w wr : World} {nt gr st : Array Value} {g i : Nat} {u : Value} (h : FE w nt gr st wr) (hg : w.heap.size + 3 < g) : FE w nt gr st (wr.setCell ⟨g, i, none⟩ u) :=
 ⟨h.b0.far (by show w.heap.size ≠ g; omega) _, h.b1.far (by show w.heap.size + 1 ≠ g; omega) _, h.b2.far (by show w.heap.size + 2 ≠ g; omega) _, h.b3.far (by show w.heap.size + 3 ≠ g; omega) _, h.bl.setCell (by show w.heap.size ≤ g; omega) _⟩
theorem pL (An Ad As Al Ap : Option Addr) (nn cn nd cd n c nl cl np cp : Nat) (ns : List Nd) (ds : List Dv) (s : List Int) (ls : List Lk) (pr : List Int) (co k d no p q : Int) (w : World) (h : yp w An Ad As Al Ap nn cn nd cd n c nl cl np cp ns ds s ls pr) (CB : ua ns ds ⟨s, ls, pr⟩) (_hco : 0 ≤ co ∧ co ≤ 7) (hx : zc ns.length ds.length ⟨k, d, no, p, q⟩ = 0) (hk : k = 1) :
 Calls prog 39 #[.agg #[.slice An nn cn, .slice Ad nd cd], .slice As n c, .agg #[.int .i64 co, .slice Al nl cl, .slice Ap np cp], .agg #[.int .i64 k, .int .i64 d, .int .i64 no, .int .i64 p, .int .i64 q]] w (uy w As Al Ap n nl np co (za ns ds co ⟨s, ls, pr⟩ ⟨k, d, no, p, q⟩)) := by
 have HK := iD hk;clear hk;obtain ⟨DJ, Ic, FR⟩ := h.ln;have Pz : pr.length = np := h.hp.len (fun _ => rfl) (by decide);have HH := iD h;have HB := iD (FE.new w #[.slice An nn cn, .slice Ad nd cd] #[.int .i64 co, .slice Al nl cl, .slice Ap np cp] #[.int .i64 k, .int .i64 d, .int .i64 no, .int .i64 p, .int .i64 q]);obtain ⟨Di, Ca, Jf, MI, MH⟩ := xd hx;dsimp only at Di Ca Jf MI MH;obtain ⟨GQ, hsl⟩ := zQ CB.s;have GJ := iD (xo.of GQ);have BR := iD CB;have Bq : nn ≤ 32 := by have := GJ.nl; omega
 have AE : nd ≤ 64 := by have := GJ.dl; omega
 dsimp only at hsl;clear h CB hx GQ
 go_enter func39, ntmps39
 go_upto_region 1 with (fail);generalize World.alloc (World.alloc (World.alloc (World.alloc w _) _) _) _ = W at *;rw [show w.heap.size + 1 + 1 = w.heap.size + 2 from rfl, show w.heap.size + 2 + 1 = w.heap.size + 3 from rfl];have HM := iD (HH.below HB.bl);obtain ⟨⟨k0, k1⟩, ⟨g0, g1, g2⟩, s0, s1, s2, s3, s4⟩ := HB.cells;have hk := HK.out;clear HK;subst hk;have hlt := Ca (by decide);obtain ⟨i, rfl⟩ := Int.eq_ofNat_of_zero_le hlt.1;have hi : i < nd := by omega
 have IZ : Hid (xh ns ds s i 1 co = 0) := by unfold Hid xh yx; rw [if_pos BR.s, if_neg (by omega), if_neg (by omega), if_neg (by omega), if_neg (by omega), if_neg (by omega)]
 go_wp2_with fail
 clear k0 k1 g0 g1 g2 s0 s1 s2 s3 s4;refine (ue 1 i no p q W (by decide)).mono ?_;rintro e w1 ⟨rfl, AX⟩;have AL := iD (HB.later AX);clear AX HB HM;go_upto_region 5 with (fail);have Co := iD (AL.later ((Below.refl _ w1).alloc lR (.cells #[.int .i64 i, .int .i64 1] 66)));have IA := iD (AJ.new w1 66 #[.int .i64 i, .int .i64 1]);have EJ : Hid (w.heap.size + 3 < w1.heap.size) := AL.b3.lt;clear AL;generalize World.alloc w1 _ = V at *;obtain ⟨ob, hob⟩ := eX w1.heap.size;rw [← hob] at IA EJ ⊢;clear hob;have Lv := iD (jm An Ad As Al Ap nn cn nd cd n c nl cl np cp ns ds s ls pr i 1 co V (HH.below Co.bl));obtain ⟨⟨k0, k1⟩, ⟨g0, g1, g2⟩, s0, s1, s2, s3, s4⟩ := Co.cells;obtain ⟨o0, o1⟩ := IA.d2
 go_wp2_with fail
 clear k0 k1 g0 g1 g2 s0 s1 s2 s3 s4 o0 o1;refine Lv.mono ?_;rintro e w2 ⟨⟨h1, rfl⟩ | ⟨h1, A1, m1, c1, x, hx, rfl, hO⟩, AQ⟩
 ·exact absurd IZ h1
 have AY := iD (Co.later AQ);have Dx := iD (IA.below AQ IA.lt);have Og : Hid (FP ns ds s i 1 co ls pr = uq ns.length ns ds s (i : Int).toNat 1 co ls pr x) := by unfold Hid FP; rw [hx]
 have BD := iD (Sl.of_own hO)
 have XF : Hid (∀ b off, A1 = some ⟨b, off, none⟩ → b ≠ w.heap.size + 3) := fun b off e => by
  have h := (hO.lt b (by rw [e]; rfl)).1;have := Co.b3.lt; omega
 have XP : Hid (∀ b off, A1 = some ⟨b, off, none⟩ → w.heap.size ≤ b) := fun b off e => by
  have h := (hO.lt b (by rw [e]; rfl)).1;have := Co.bl.size; omega
 have Mm : V.heap.size ≤ w2.heap.size := AQ.size;have Lu : Hid (w.heap.size + 3 < V.heap.size) := Co.b3.lt;clear h1 hx hO AQ Lv Co IA IZ
 go_wp2_with fail
 refine (xO As n c w2.heap.size s w2 (HH.below AY.bl).hs lR (by omega)).mono ?_;rintro e w3 ⟨A2, c2, rfl, De, BJ⟩;rw [FR] at De ⊢;have CS := iD (AY.later BJ);have Eb := iD (Dx.below BJ Dx.lt);have EG := iD (BD.below BJ lR);have AB : Hid (w2.heap.size ≤ w3.heap.size) := BJ.size;obtain ⟨g, y, rfl, Am, Cc, hy, Gu, QB, IJ⟩ := De.at (show i < n by omega);have Au := iD (CS.put (g := g) (i := i) (u := .int .i64 1) (by have := Lu.out; omega));have OY := iD (Eb.far (p := ⟨g, i, none⟩) (show ob ≠ g by have := Dx.lt; omega) (.int .i64 1));have EU := iD (EG.setCell (p := ⟨g, i, none⟩) Am (.int .i64 1));have Wm := iD (Sl.of_own (IJ 1));have XO : Hid (w.heap.size ≤ g) := by unfold Hid; have := Lu.out; omega
 have XD : Hid (g ≠ w.heap.size + 3) := by unfold Hid; have := Lu.out; omega
 have Rw : (w3.setCell ⟨g, i, none⟩ (.int .i64 1)).heap.size = w3.heap.size := by simp [World.setCell]
 obtain ⟨o0, o1⟩ := Eb.d2;go_upto_region 8 with (fail);clear De BJ AY Dx BD CS Eb EG IJ Gu QB hy o0 o1;have AA : Hid (w2.heap.size ≤ (w3.setCell ⟨g, i, none⟩ (.int .i64 1)).heap.size) := by unfold Hid; rw [Rw]; exact AB.out
 clear Rw Cc;generalize World.setCell w3 _ _ = X at *;have XB := iD (tR An Ad Al Ap nn cn nd cd nl cl np cp ds co i 1 X (HH.below Au.bl).hd (by decide) (by omega) (by omega));obtain ⟨⟨k0, k1⟩, ⟨g0, g1, g2⟩, s0, s1, s2, s3, s4⟩ := Au.cells;obtain ⟨o0, o1⟩ := OY.d2
 go_wp2_with fail
 clear k0 k1 g0 g1 g2 s0 s1 s2 s3 s4 o0 o1;refine XB.mono ?_;rintro e w4 ⟨rfl, BX⟩;have Bu := iD (Au.later BX);have Bh := iD (((EU.more AA).below BX lR).more BX.size);have Wn := iD ((Wm.below BX lR).more BX.size);clear BX XB Au OY EU Wm;rcases KL : uu ds 1 i with _ | _
 ·simp only [nA, Bool.false_eq_true, if_false];have HT : Hid (za ns ds co ⟨s, ls, pr⟩ ⟨1, i, no, p, q⟩ = ⟨FP ns ds s i 1 co ls pr, ⟨s.set (i : Int).toNat 1, ls, pr⟩, true⟩) := by unfold Hid; rw [tG ns ds co ⟨s, ls, pr⟩ i no p q (by decide), KL]; rfl
  clear KL;obtain ⟨d0, d1, d2⟩ := Bu.b3.d3;obtain ⟨y0, y1, y2⟩ := Bu.b3.e3;have HE := iD (Bu.fin (x := .int .i64 co) (y := .slice Al nl cl) (z := .slice Ap np cp))
  have DF : Hid (yi (((w4.setCell ⟨w.heap.size + 3, 0, none⟩ (.int .i64 co)).setCell ⟨w.heap.size + 3, 1, none⟩ (.slice Al nl cl)).setCell ⟨w.heap.size + 3, 2, none⟩ (.slice Ap np cp)) A1 (some ⟨g, 0, none⟩) Al Ap m1 c1 n c2 nl cl np cp ⟨FP ns ds s i 1 co ls pr, ⟨s.set (i : Int).toNat 1, ls, pr⟩, true⟩) := by
   refine ⟨?_, ?_, (HH.below HE.2).hl, (HH.below HE.2).hp⟩
   ·dsimp only; rw [Og.out]; exact Ip Bh XF.out
   ·dsimp only; rw [Int.toNat_natCast]; exact Ip Wn (fun b off e => by injection e with e; injection e with e1 e2; rw [← e1]; exact XD)
  go_wp2_with fail
  clear d0 d1 d2 y0 y1 y2;generalize World.setCell (World.setCell (World.setCell w4 _ _) _ _) _ _ = z at *;obtain ⟨q0, q1, q2⟩ := HE.1.d3;exact bodyPost_ret (v := .tuple #[.slice A1 m1 c1, .slice (some ⟨g, 0, none⟩) n c2, .agg #[.int .i64 co, .slice Al nl cl, .slice Ap np cp], .bool true]) (by simp [results, results39, go_sem, q0, q1, q2]) rfl ⟨_, _, _, _, _, _, _, _, _, _, _, _, by rw [HT.out], by rw [HT.out]; exact DF, ⟨.inr XP, .inr (fun b off e => by injection e with e; injection e with e1 e2; rw [← e1]; exact XO), .inl ⟨rfl, rfl⟩, .inl ⟨rfl, rfl⟩⟩, HE.2⟩
 ·simp only [nA, if_true];have HT : Hid (za ns ds co ⟨s, ls, pr⟩ ⟨1, i, no, p, q⟩ = ⟨FP ns ds s i 1 co ls pr, ⟨s.set (i : Int).toNat 1, ls, []⟩, true⟩) := by unfold Hid; rw [tG ns ds co ⟨s, ls, pr⟩ i no p q (by decide), KL]; rfl
  clear KL;obtain ⟨d0, d1, d2⟩ := Bu.b3.d3;obtain ⟨y0, y1, y2⟩ := Bu.b3.e3;have HE := iD (Bu.fin (x := .int .i64 co) (y := .slice Al nl cl) (z := .slice none 0 0))
  have DF : Hid (yi (((w4.setCell ⟨w.heap.size + 3, 0, none⟩ (.int .i64 co)).setCell ⟨w.heap.size + 3, 1, none⟩ (.slice Al nl cl)).setCell ⟨w.heap.size + 3, 2, none⟩ (.slice none 0 0)) A1 (some ⟨g, 0, none⟩) Al none m1 c1 n c2 nl cl 0 0 ⟨FP ns ds s i 1 co ls pr, ⟨s.set (i : Int).toNat 1, ls, []⟩, true⟩) := by
   refine ⟨?_, ?_, (HH.below HE.2).hl, Sl.nil _ _ _⟩
   ·dsimp only; rw [Og.out]; exact Ip Bh XF.out
   ·dsimp only; rw [Int.toNat_natCast]; exact Ip Wn (fun b off e => by injection e with e; injection e with e1 e2; rw [← e1]; exact XD)
  go_wp2_with fail
  clear d0 d1 d2 y0 y1 y2;generalize World.setCell (World.setCell (World.setCell w4 _ _) _ _) _ _ = z at *;obtain ⟨q0, q1, q2⟩ := HE.1.d3;exact bodyPost_ret (v := .tuple #[.slice A1 m1 c1, .slice (some ⟨g, 0, none⟩) n c2, .agg #[.int .i64 co, .slice Al nl cl, .slice none 0 0], .bool true]) (by simp [results, results39, go_sem, q0, q1, q2]) rfl ⟨_, _, _, _, _, _, _, _, _, _, _, _, by rw [HT.out], by rw [HT.out]; exact DF, ⟨.inr XP, .inr (fun b off e => by injection e with e; injection e with e1 e2; rw [← e1]; exact XO), .inl ⟨rfl, rfl⟩, .inr (fun b off e => by cases e)⟩, HE.2⟩
theorem rr (An Ad As Al Ap : Option Addr) (nn cn nd cd n c nl cl np cp : Nat) (ns : List Nd) (ds : List Dv) (s : List Int) (ls : List Lk) (pr : List Int) (co k d no p q : Int) (w : World) (h : yp w An Ad As Al Ap nn cn nd cd n c nl cl np cp ns ds s ls pr) (CB : ua ns ds ⟨s, ls, pr⟩) (_hco : 0 ≤ co ∧ co ≤ 7) (hx : zc ns.length ds.length ⟨k, d, no, p, q⟩ = 0) (hk : k = 2) :
 Calls prog 39 #[.agg #[.slice An nn cn, .slice Ad nd cd], .slice As n c, .agg #[.int .i64 co, .slice Al nl cl, .slice Ap np cp], .agg #[.int .i64 k, .int .i64 d, .int .i64 no, .int .i64 p, .int .i64 q]] w (uy w As Al Ap n nl np co (za ns ds co ⟨s, ls, pr⟩ ⟨k, d, no, p, q⟩)) := by
 have HK := iD hk;clear hk;obtain ⟨DJ, Ic, FR⟩ := h.ln;have Pz : pr.length = np := h.hp.len (fun _ => rfl) (by decide);have HH := iD h;have HB := iD (FE.new w #[.slice An nn cn, .slice Ad nd cd] #[.int .i64 co, .slice Al nl cl, .slice Ap np cp] #[.int .i64 k, .int .i64 d, .int .i64 no, .int .i64 p, .int .i64 q]);obtain ⟨Di, Ca, Jf, MI, MH⟩ := xd hx;dsimp only at Di Ca Jf MI MH;obtain ⟨GQ, hsl⟩ := zQ CB.s;have GJ := iD (xo.of GQ);have BR := iD CB;have Bq : nn ≤ 32 := by have := GJ.nl; omega
 have AE : nd ≤ 64 := by have := GJ.dl; omega
 dsimp only at hsl;clear h CB hx GQ
 go_enter func39, ntmps39
 go_upto_region 1 with (fail);generalize World.alloc (World.alloc (World.alloc (World.alloc w _) _) _) _ = W at *;rw [show w.heap.size + 1 + 1 = w.heap.size + 2 from rfl, show w.heap.size + 2 + 1 = w.heap.size + 3 from rfl];have HM := iD (HH.below HB.bl);obtain ⟨⟨k0, k1⟩, ⟨g0, g1, g2⟩, s0, s1, s2, s3, s4⟩ := HB.cells;have hk := HK.out;clear HK;subst hk;have hlt := Ca (by decide);obtain ⟨i, rfl⟩ := Int.eq_ofNat_of_zero_le hlt.1;have hi : i < nd := by omega
 have IZ : Hid (xh ns ds s i 2 co = 0) := by unfold Hid xh yx; rw [if_pos BR.s, if_neg (by omega), if_neg (by omega), if_neg (by omega), if_neg (by omega), if_neg (by omega)]
 go_wp2_with fail
 clear k0 k1 g0 g1 g2 s0 s1 s2 s3 s4;refine (ue 2 i no p q W (by decide)).mono ?_;rintro e w1 ⟨rfl, AX⟩;have AL := iD (HB.later AX);clear AX HB HM;go_upto_region 5 with (fail);have Co := iD (AL.later ((Below.refl _ w1).alloc lR (.cells #[.int .i64 i, .int .i64 2] 66)));have IA := iD (AJ.new w1 66 #[.int .i64 i, .int .i64 2]);have EJ : Hid (w.heap.size + 3 < w1.heap.size) := AL.b3.lt;clear AL;generalize World.alloc w1 _ = V at *;obtain ⟨ob, hob⟩ := eX w1.heap.size;rw [← hob] at IA EJ ⊢;clear hob;have Lv := iD (jm An Ad As Al Ap nn cn nd cd n c nl cl np cp ns ds s ls pr i 2 co V (HH.below Co.bl));obtain ⟨⟨k0, k1⟩, ⟨g0, g1, g2⟩, s0, s1, s2, s3, s4⟩ := Co.cells;obtain ⟨o0, o1⟩ := IA.d2
 go_wp2_with fail
 clear k0 k1 g0 g1 g2 s0 s1 s2 s3 s4 o0 o1;refine Lv.mono ?_;rintro e w2 ⟨⟨h1, rfl⟩ | ⟨h1, A1, m1, c1, x, hx, rfl, hO⟩, AQ⟩
 ·exact absurd IZ h1
 have AY := iD (Co.later AQ);have Dx := iD (IA.below AQ IA.lt);have Og : Hid (FP ns ds s i 2 co ls pr = uq ns.length ns ds s (i : Int).toNat 2 co ls pr x) := by unfold Hid FP; rw [hx]
 have BD := iD (Sl.of_own hO)
 have XF : Hid (∀ b off, A1 = some ⟨b, off, none⟩ → b ≠ w.heap.size + 3) := fun b off e => by
  have h := (hO.lt b (by rw [e]; rfl)).1;have := Co.b3.lt; omega
 have XP : Hid (∀ b off, A1 = some ⟨b, off, none⟩ → w.heap.size ≤ b) := fun b off e => by
  have h := (hO.lt b (by rw [e]; rfl)).1;have := Co.bl.size; omega
 have Mm : V.heap.size ≤ w2.heap.size := AQ.size;have Lu : Hid (w.heap.size + 3 < V.heap.size) := Co.b3.lt;clear h1 hx hO AQ Lv Co IA IZ
 go_wp2_with fail
 refine (xO As n c w2.heap.size s w2 (HH.below AY.bl).hs lR (by omega)).mono ?_;rintro e w3 ⟨A2, c2, rfl, De, BJ⟩;rw [FR] at De ⊢;have CS := iD (AY.later BJ);have Eb := iD (Dx.below BJ Dx.lt);have EG := iD (BD.below BJ lR);have AB : Hid (w2.heap.size ≤ w3.heap.size) := BJ.size;obtain ⟨g, y, rfl, Am, Cc, hy, Gu, QB, IJ⟩ := De.at (show i < n by omega);have Au := iD (CS.put (g := g) (i := i) (u := .int .i64 2) (by have := Lu.out; omega));have OY := iD (Eb.far (p := ⟨g, i, none⟩) (show ob ≠ g by have := Dx.lt; omega) (.int .i64 2));have EU := iD (EG.setCell (p := ⟨g, i, none⟩) Am (.int .i64 2));have Wm := iD (Sl.of_own (IJ 2));have XO : Hid (w.heap.size ≤ g) := by unfold Hid; have := Lu.out; omega
 have XD : Hid (g ≠ w.heap.size + 3) := by unfold Hid; have := Lu.out; omega
 have Rw : (w3.setCell ⟨g, i, none⟩ (.int .i64 2)).heap.size = w3.heap.size := by simp [World.setCell]
 obtain ⟨o0, o1⟩ := Eb.d2;go_upto_region 8 with (fail);clear De BJ AY Dx BD CS Eb EG IJ Gu QB hy o0 o1;have AA : Hid (w2.heap.size ≤ (w3.setCell ⟨g, i, none⟩ (.int .i64 2)).heap.size) := by unfold Hid; rw [Rw]; exact AB.out
 clear Rw Cc;generalize World.setCell w3 _ _ = X at *;have XB := iD (tR An Ad Al Ap nn cn nd cd nl cl np cp ds co i 2 X (HH.below Au.bl).hd (by decide) (by omega) (by omega));obtain ⟨⟨k0, k1⟩, ⟨g0, g1, g2⟩, s0, s1, s2, s3, s4⟩ := Au.cells;obtain ⟨o0, o1⟩ := OY.d2
 go_wp2_with fail
 clear k0 k1 g0 g1 g2 s0 s1 s2 s3 s4 o0 o1;refine XB.mono ?_;rintro e w4 ⟨rfl, BX⟩;have Bu := iD (Au.later BX);have Bh := iD (((EU.more AA).below BX lR).more BX.size);have Wn := iD ((Wm.below BX lR).more BX.size);clear BX XB Au OY EU Wm;rcases KL : uu ds 2 i with _ | _
 ·simp only [nA, Bool.false_eq_true, if_false];have HT : Hid (za ns ds co ⟨s, ls, pr⟩ ⟨2, i, no, p, q⟩ = ⟨FP ns ds s i 2 co ls pr, ⟨s.set (i : Int).toNat 2, ls, pr⟩, true⟩) := by unfold Hid; rw [tG ns ds co ⟨s, ls, pr⟩ i no p q (by decide), KL]; rfl
  clear KL;obtain ⟨d0, d1, d2⟩ := Bu.b3.d3;obtain ⟨y0, y1, y2⟩ := Bu.b3.e3;have HE := iD (Bu.fin (x := .int .i64 co) (y := .slice Al nl cl) (z := .slice Ap np cp))
  have DF : Hid (yi (((w4.setCell ⟨w.heap.size + 3, 0, none⟩ (.int .i64 co)).setCell ⟨w.heap.size + 3, 1, none⟩ (.slice Al nl cl)).setCell ⟨w.heap.size + 3, 2, none⟩ (.slice Ap np cp)) A1 (some ⟨g, 0, none⟩) Al Ap m1 c1 n c2 nl cl np cp ⟨FP ns ds s i 2 co ls pr, ⟨s.set (i : Int).toNat 2, ls, pr⟩, true⟩) := by
   refine ⟨?_, ?_, (HH.below HE.2).hl, (HH.below HE.2).hp⟩
   ·dsimp only; rw [Og.out]; exact Ip Bh XF.out
   ·dsimp only; rw [Int.toNat_natCast]; exact Ip Wn (fun b off e => by injection e with e; injection e with e1 e2; rw [← e1]; exact XD)
  go_wp2_with fail
  clear d0 d1 d2 y0 y1 y2;generalize World.setCell (World.setCell (World.setCell w4 _ _) _ _) _ _ = z at *;obtain ⟨q0, q1, q2⟩ := HE.1.d3;exact bodyPost_ret (v := .tuple #[.slice A1 m1 c1, .slice (some ⟨g, 0, none⟩) n c2, .agg #[.int .i64 co, .slice Al nl cl, .slice Ap np cp], .bool true]) (by simp [results, results39, go_sem, q0, q1, q2]) rfl ⟨_, _, _, _, _, _, _, _, _, _, _, _, by rw [HT.out], by rw [HT.out]; exact DF, ⟨.inr XP, .inr (fun b off e => by injection e with e; injection e with e1 e2; rw [← e1]; exact XO), .inl ⟨rfl, rfl⟩, .inl ⟨rfl, rfl⟩⟩, HE.2⟩
 ·simp only [nA, if_true];have HT : Hid (za ns ds co ⟨s, ls, pr⟩ ⟨2, i, no, p, q⟩ = ⟨FP ns ds s i 2 co ls pr, ⟨s.set (i : Int).toNat 2, ls, []⟩, true⟩) := by unfold Hid; rw [tG ns ds co ⟨s, ls, pr⟩ i no p q (by decide), KL]; rfl
  clear KL;obtain ⟨d0, d1, d2⟩ := Bu.b3.d3;obtain ⟨y0, y1, y2⟩ := Bu.b3.e3;have HE := iD (Bu.fin (x := .int .i64 co) (y := .slice Al nl cl) (z := .slice none 0 0))
  have DF : Hid (yi (((w4.setCell ⟨w.heap.size + 3, 0, none⟩ (.int .i64 co)).setCell ⟨w.heap.size + 3, 1, none⟩ (.slice Al nl cl)).setCell ⟨w.heap.size + 3, 2, none⟩ (.slice none 0 0)) A1 (some ⟨g, 0, none⟩) Al none m1 c1 n c2 nl cl 0 0 ⟨FP ns ds s i 2 co ls pr, ⟨s.set (i : Int).toNat 2, ls, []⟩, true⟩) := by
   refine ⟨?_, ?_, (HH.below HE.2).hl, Sl.nil _ _ _⟩
   ·dsimp only; rw [Og.out]; exact Ip Bh XF.out
   ·dsimp only; rw [Int.toNat_natCast]; exact Ip Wn (fun b off e => by injection e with e; injection e with e1 e2; rw [← e1]; exact XD)
  go_wp2_with fail
  clear d0 d1 d2 y0 y1 y2;generalize World.setCell (World.setCell (World.setCell w4 _ _) _ _) _ _ = z at *;obtain ⟨q0, q1, q2⟩ := HE.1.d3;exact bodyPost_ret (v := .tuple #[.slice A1 m1 c1, .slice (some ⟨g, 0, none⟩) n c2, .agg #[.int .i64 co, .slice Al nl cl, .slice none 0 0], .bool true]) (by simp [results, results39, go_sem, q0, q1, q2]) rfl ⟨_, _, _, _, _, _, _, _, _, _, _, _, by rw [HT.out], by rw [HT.out]; exact DF, ⟨.inr XP, .inr (fun b off e => by injection e with e; injection e with e1 e2; rw [← e1]; exact XO), .inl ⟨rfl, rfl⟩, .inr (fun b off e => by cases e)⟩, HE.2⟩
theorem xC (An Ad As Al Ap : Option Addr) (nn cn nd cd n c nl cl np cp : Nat) (ns : List Nd) (ds : List Dv) (s : List Int) (ls : List Lk) (pr : List Int) (co k d no p q : Int) (w : World) (h : yp w An Ad As Al Ap nn cn nd cd n c nl cl np cp ns ds s ls pr) (CB : ua ns ds ⟨s, ls, pr⟩) (FT : 0 ≤ co ∧ co ≤ 7) (hx : zc ns.length ds.length ⟨k, d, no, p, q⟩ = 0) :
 Calls prog 39 #[.agg #[.slice An nn cn, .slice Ad nd cd], .slice As n c, .agg #[.int .i64 co, .slice Al nl cl, .slice Ap np cp], .agg #[.int .i64 k, .int .i64 d, .int .i64 no, .int .i64 p, .int .i64 q]] w (uy w As Al Ap n nl np co (za ns ds co ⟨s, ls, pr⟩ ⟨k, d, no, p, q⟩)) := by
 have Di := (xd hx).1;dsimp only at Di;rcases (show k = 1 ∨ k = 2 ∨ k = 3 ∨ k = 4 ∨ k = 5 ∨ k = 6 by omega) with hk | hk | hk | hk | hk | hk
 ·exact pL An Ad As Al Ap nn cn nd cd n c nl cl np cp ns ds s ls pr co k d no p q w h CB FT hx hk
 ·exact rr An Ad As Al Ap nn cn nd cd n c nl cl np cp ns ds s ls pr co k d no p q w h CB FT hx hk
 ·exact pM An Ad As Al Ap nn cn nd cd n c nl cl np cp ns ds s ls pr co k d no p q w h CB FT hx hk
 ·exact rF An Ad As Al Ap nn cn nd cd n c nl cl np cp ns ds s ls pr co k d no p q w h CB FT hx hk
 ·exact rq An Ad As Al Ap nn cn nd cd n c nl cl np cp ns ds s ls pr co k d no p q w h CB FT hx hk
 ·exact rt An Ad As Al Ap nn cn nd cd n c nl cl np cp ns ds s ls pr co k d no p q w h CB FT hx hk
end Go.Proofs.YtddddlhgaeameaaGreatDoor
