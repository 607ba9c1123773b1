import Derived.Test.YtkkobemhbicjgaaGreatDoorB16
import Derived.IntWalk
set_option maxRecDepth 100000
set_option maxHeartbeats 8000000
namespace Go.Proofs.YtkkobemhbicjgaaGreatDoor
open Go.RowKit Tryz
variable {ls : List Lk} {i k : Nat}
theorem zD {w w' : World} {p : Addr} {v : Value} (hb : bW w w') (h : w.cell? p = some v) : w'.cell? p = some v := (hb.cell (vK h)).trans h
theorem gC {ds : List Dv} {k : Lk} (hk : ls[i]? = some k) : xK ds ls i = if zv ds k ≠ 0 then zv ds k else if xH ls i k = true then 14 else if yd (ls.take i) k = true then 18 else if yq (ls.take i) k.key = true then 4 else 0 := by unfold xK; rw [hk]
theorem nJ (ls : List Lk) (k : Lk) : xH ls 0 k = false := rfl
theorem pD {p k : Lk} (h0 : 0 < i) (hp : ls[i - 1]? = some p) : xH ls i k = !zq p k := by unfold xH; rw [hp, decide_eq_true h0]; simp
def RkR (w : World) (N : Array Value) (ds : List Dv) (ls : List Lk) (n gk : Nat) (iv : Value) (wr : World) : Prop := ∃ i : Nat, iv = .int .i64 i ∧ i ≤ n ∧ gk = n - i ∧ Hid (yL ds ls i = 0) ∧ Hid (AJ wr w.heap.size 30 N) ∧ Hid (bW w wr)
def ew (w : World) (N : Array Value) (ls : List Lk) (cur : Lk) (i gk : Nat) (kv : Value) (wr : World) : Prop := ∃ k : Nat, kv = .int .i64 k ∧ k ≤ i ∧ gk = i - k ∧ Hid (yd (ls.take k) cur = false) ∧ Hid (AJ wr w.heap.size 30 N) ∧ Hid (bW w wr)
def ev (w : World) (N : Array Value) (ls : List Lk) (q : Int) (i gk : Nat) (kv : Value) (wr : World) : Prop := ∃ k : Nat, kv = .int .i64 k ∧ k ≤ i ∧ gk = i - k ∧ Hid (yq (ls.take k) q = false) ∧ Hid (AJ wr w.heap.size 30 N) ∧ Hid (bW w wr)
theorem vR {x cur : Lk} (hx : ls[k]? = some x) (h : yd (ls.take k) cur = false) : yd (ls.take (k + 1)) cur = tW cur x := by
 unfold yd at *; rw [zP hx, List.any_append, h]; simp
theorem vO {x : Lk} {q : Int} (hx : ls[k]? = some x) (h : yq (ls.take k) q = false) : yq (ls.take (k + 1)) q = decide (x.key = q) := by
 unfold yq at *; rw [zP hx, List.any_append, h]; simp
theorem iM {cur : Lk} (h : yd (ls.take k) cur = true) (hk : k ≤ i) : yd (ls.take i) cur = true := by
 unfold yd at *;rw [List.any_eq_true] at *;obtain ⟨x, hx, hb⟩ := h;exact ⟨x, (List.take_sublist_take_left hk).subset hx, hb⟩
theorem mU {q : Int} (h : yq (ls.take k) q = true) (hk : k ≤ i) : yq (ls.take i) q = true := by
 unfold yq at *;rw [List.any_eq_true] at *;obtain ⟨x, hx, hb⟩ := h;exact ⟨x, (List.take_sublist_take_left hk).subset hx, hb⟩
theorem oy (An Ad Al : Option Addr) (nn cn nd cd n c Bn Bd Bl : Nat) (ns : List Nd) (ds : List Dv) (ls : List Lk) (w : World) (hn : Sl w Bn 3 An nn cn (ns.flatMap Nd.cells)) (hd : Sl w Bd 5 Ad nd cd (ds.flatMap Dv.cells)) (hs : Sl w Bl 3 Al n c (ls.flatMap Lk.cells)) (CS : Bn ≤ w.heap.size) (BP : Bd ≤ w.heap.size) (Dn : Bl ≤ w.heap.size)
 (Bg : FP ns) (BU : Fv ds) :
 Calls prog 80 #[.agg #[.slice An nn cn, .slice Ad nd cd], .slice Al n c] w fun e w' => e = .returned (.int .i64 (zJ ns ds ls)) ∧ bW w w' := by
 have Kw := iD (hs.len (fun _ => rfl) (by decide));have Cm := iD (rX An Ad nn cn nd cd Bn Bd ns ds (w.alloc (.cells #[.slice An nn cn, .slice Ad nd cd] 30)) (hn.alloc CS _) (hd.alloc BP _) (by simp; omega) (by simp; omega) Bg BU);have HE : Hid (zJ ns ds ls = if zR ns ds ≠ 0 then zR ns ds else if 128 < n then 1 else yL ds ls n) := by unfold Hid zJ; rw [Kw.out]
 have HD := iD hd; have HS := iD hs;have hle := hs.le;have HK := iD (AJ.new w 30 #[.slice An nn cn, .slice Ad nd cd]);have Bj : Hid (Below w.heap.size w (w.alloc (.cells #[.slice An nn cn, .slice Ad nd cd] 30))) := (Below.refl _ _).alloc lR _;clear hn hd hs Bg BU;generalize zR ns ds = er at *;by_cases h0 : er = 0; rotate_left
 ·have h0' : (er != 0) = true := by simpa using h0
  have HR : Hid (zJ ns ds ls = er) := by unfold Hid; rw [HE.out, if_pos h0]
  clear h0
  go_enter func80, ntmps80
  go_wp2_with fail
  refine Cm.mono ?_;rintro e w1 ⟨rfl, AV⟩
  go_wp2_with fail
  go_ret;exact ⟨zC (by rw [HR.out]), Bj.trans (AV.mono (by simp))⟩
 subst h0;by_cases Ec : 128 < n
 ·have q : decide ((128 : Int) < (n : Int)) = true := by simp; omega
  have HR : Hid (zJ ns ds ls = 1) := by unfold Hid; rw [HE.out, if_neg (by simp), if_pos Ec]
  go_enter func80, ntmps80
  go_wp2_with fail
  refine Cm.mono ?_;rintro e w1 ⟨rfl, AV⟩
  go_wp2_with fail
  go_ret;exact ⟨zC (by rw [HR.out]), Bj.trans (AV.mono (by simp))⟩
 have q : decide ((128 : Int) < (n : Int)) = false := by simp; omega
 have HR : Hid (zJ ns ds ls = yL ds ls n) := by unfold Hid; rw [HE.out, if_neg (by simp), if_neg Ec]
 have QC : n ≤ 128 := by omega
 clear HE Ec
 go_enter func80, ntmps80
 go_wp2_with fail
 refine Cm.mono ?_;rintro e w1 ⟨rfl, AV⟩;have De := iD (HK.below AV (by simp));have AQ := iD (Bj.trans (AV.mono (by simp)));clear AV Cm HK Bj
 go_wp2_with fail
 clear q
 go_loopg [6] n (RkR w #[.slice An nn cn, .slice Ad nd cd] ds ls n)
 case atStart => exact ⟨0, rfl, Nat.zero_le _, rfl, rfl, De, AQ⟩
 case round =>
  clear De AQ;obtain ⟨i, rfl, hi, rfl, Ku, Fy, AU⟩ := hrel;by_cases hlt : i < n
  ·obtain ⟨b, off, d, p, q, rfl, hb, hx, c0, c1, c2⟩ := (HS.below AU Dn).lock hlt;have HX := iD hx;have Ed := iD (gC (ds := ds) hx);obtain ⟨k0, k1⟩ := Fy.d2;have AB := AU.size;have AE := iD (rW An Ad nn cn nd cd Bd ds d p q wr.drew (HD.below AU.drew BP) (by simp; omega));have BK : Hid (wr.cell? ⟨w.heap.size, 0, none⟩ = some (.slice An nn cn) ∧ wr.cell? ⟨w.heap.size, 1, none⟩ = some (.slice Ad nd cd) ∧ wr.cell? ⟨b, off + i * 3, none⟩ = some (.int .i64 d) ∧ wr.cell? ⟨b, off + i * 3 + 1, none⟩ = some (.int .i64 p) ∧ wr.cell? ⟨b, off + i * 3 + 2, none⟩ = some (.int .i64 q)) := ⟨k0, k1, c0, c1, c2⟩;clear hx k0 k1 c0 c1 c2;generalize zv ds ⟨d, p, q⟩ = er at *;go_upto_region 9 with (fail)
   refine fv (fun W' => W'.cell? ⟨w.heap.size, 0, none⟩ = some (.slice An nn cn) ∧ W'.cell? ⟨w.heap.size, 1, none⟩ = some (.slice Ad nd cd) ∧ W'.cell? ⟨b, off + i * 3, none⟩ = some (.int .i64 d) ∧ W'.cell? ⟨b, off + i * 3 + 1, none⟩ = some (.int .i64 p) ∧ W'.cell? ⟨b, off + i * 3 + 2, none⟩ = some (.int .i64 q)) [] ?_ fun AA => ?_
   ·exact BK.out
   try dsimp only at AA
   refine tk 0 24 (mf 7 1) AA ?_;refine tk 1 25 (mf 7 2) AA ?_;refine tk 2 26 (mf 7 3) AA ?_;refine tk 3 27 (mf 7 4) AA ?_;refine tk 4 28 (mf 7 5) AA ?_;refine tb 5 (mf 7 6) fun K hK => ?_
   (go_simp; refine AE.mono ?_; rintro e w2 ⟨rfl, AZ⟩; go_simp)
   refine hK _ _ (fun _ => ⟨zD AZ BK.1, zD AZ BK.2.1, zD AZ BK.2.2.1, zD AZ BK.2.2.2.1, zD AZ BK.2.2.2.2⟩) fun p => (fun AA => ?_) (p rfl)
   clear p hK K;(try dsimp only at AA);refine tk 6 7 (mf 7 7) AA ?_;refine tK ?_;have Ai := iD (AU.drew.trans (AZ.mono AB));have EP := iD ((show AJ wr.drew w.heap.size 30 #[.slice An nn cn, .slice Ad nd cd] from Fy).below AZ Fy.lt);have JH := iD AA;clear AA AZ AU Fy BK AE AB;by_cases he : er = 0; rotate_left
   ·have qe : (er != 0) = true := by simpa using he
    have Ex := iD (yu Ku (by rw [Ed.out, if_pos he]) he n hlt);clear he
    go_wp2_with fail
    go_ret;exact ⟨zC (by rw [HR.out, Ex.out]), Ai⟩
   subst he;rcases Nat.eq_zero_or_pos i with Ml | Ml
   ·have qi : decide ((0 : Int) < (i : Int)) = false := by simp; omega
    have AL : decide (0 < i) = false := by simp; omega
    have Ez : Hid (xH ls i ⟨d, p, q⟩ = false) := by rw [Ml]; exact nJ _ _
    clear Ml;go_upto_region 12 with (fail);refine fv (fun _ => True) [] ?_ fun AA => ?_
    ·exact trivial
    try dsimp only at AA
    refine tk 0 33 (mf 15 1) AA ?_;refine tk 1 34 (mf 15 2) AA ?_;refine tk 2 35 (mf 15 3) AA ?_;refine ts 3 36 (mf 15 4) AA ?_;refine ts 4 37 (mf 15 5) AA ?_;refine ts 5 38 (mf 15 6) AA ?_;refine ts 6 39 (mf 15 7) AA ?_;refine ts 7 40 (mf 15 8) AA ?_;refine ts 8 41 (mf 15 9) AA ?_;refine ts 9 42 (mf 15 10) AA ?_;refine ts 10 43 (mf 15 11) AA ?_;refine ts 11 44 (mf 15 12) AA ?_;refine ts 12 45 (mf 15 13) AA ?_;refine ts 13 46 (mf 15 14) AA ?_;refine tk 14 47 (mf 15 15) AA ?_;refine tK ?_;clear AA;have Mr := EP.out; have LP := Ai.drew;clear EP Ai JH;have EC := iD Mr; have CO := iD LP;clear Mr LP
    go_wp2_with fail
    go_loopg [8] i (ew w #[.slice An nn cn, .slice Ad nd cd] ls ⟨d, p, q⟩ i)
    case atStart => exact ⟨0, rfl, Nat.zero_le _, rfl, rfl, EC, CO⟩
    case round =>
     clear EC CO;obtain ⟨k, rfl, hk, rfl, Mf, Fy, AU⟩ := hrel;by_cases AG : k < i
     ·obtain ⟨b1, En, d1, p1, q1, Gh, _, Dr, e0, e1, _⟩ := (HS.below AU Dn).lock (i := k) (by omega);injection Gh with Gh; injection Gh with h1 h2; subst h1 h2;obtain ⟨b2, IL, d2, p2, q2, Cc, _, CW, f0, f1, _⟩ := (HS.below AU Dn).lock hlt;injection Cc with Cc; injection Cc with h1 h2; subst h1 h2;rw [HX.out] at CW;injection CW with CW; injection CW with h1 h2 h3; subst h1 h2 h3;have Jt := iD Dr;have Gx : k < n := by omega
      have BK : Hid (wr.cell? ⟨b, off + k * 3, none⟩ = some (.int .i64 d1) ∧ wr.cell? ⟨b, off + k * 3 + 1, none⟩ = some (.int .i64 p1) ∧ wr.cell? ⟨b, off + i * 3, none⟩ = some (.int .i64 d) ∧ wr.cell? ⟨b, off + i * 3 + 1, none⟩ = some (.int .i64 p)) := ⟨e0, e1, f0, f1⟩;clear Dr e0 e1 f0 f1;by_cases hdd : d1 = d
      ·subst hdd;have qd : (d1 == d1) = true := by simp
       by_cases Lt : p1 = p
       ·subst Lt;have qp : (p1 != p1) = false := by simp
        have Ay : Hid (yd (ls.take (k + 1)) ⟨d1, p1, q⟩ = false) := by unfold Hid; rw [vR Jt.out Mf.out]; simp [tW]
        go_upto_region 17 with (fail);refine fv (fun W' => W'.cell? ⟨b, off + k * 3, none⟩ = some (.int .i64 d1) ∧ W'.cell? ⟨b, off + k * 3 + 1, none⟩ = some (.int .i64 p1) ∧ W'.cell? ⟨b, off + i * 3, none⟩ = some (.int .i64 d1) ∧ W'.cell? ⟨b, off + i * 3 + 1, none⟩ = some (.int .i64 p1)) [] ?_ fun AA => ?_
        ·exact BK.out
        try dsimp only at AA
        refine tk 0 53 (mf 24 1) AA ?_;refine tk 1 54 (mf 24 2) AA ?_;refine tk 2 55 (mf 24 3) AA ?_;refine tk 3 56 (mf 24 4) AA ?_;refine tk 4 57 (mf 24 5) AA ?_;refine tk 5 58 (mf 24 6) AA ?_;refine tk 6 59 (mf 24 7) AA ?_;refine tk 7 60 (mf 24 8) AA ?_;refine tk 8 61 (mf 24 9) AA ?_;refine tk 9 62 (mf 24 10) AA ?_;refine tk 10 63 (mf 24 11) AA ?_;refine tk 11 64 (mf 24 12) AA ?_;refine tk 12 65 (mf 24 13) AA ?_;refine tk 13 66 (mf 24 14) AA ?_;refine tk 14 67 (mf 24 15) AA ?_;refine tk 15 68 (mf 24 16) AA ?_;refine tk 16 69 (mf 24 17) AA ?_;refine tk 17 70 (mf 24 18) AA ?_;refine tk 18 71 (mf 24 19) AA ?_;refine tk 19 72 (mf 24 20) AA ?_;refine tk 20 73 (mf 24 21) AA ?_;refine tk 21 74 (mf 24 22) AA ?_;refine tk 22 75 (mf 24 23) AA ?_;refine tk 23 76 (mf 24 24) AA ?_;refine tK ?_;clear AA
        go_wp2_with fail
        go_roundg (i - (k + 1))
        ·exact ⟨k + 1, by go_num, by omega, rfl, Ay, Fy, AU.drew⟩
        omega
       ·have qp : (p1 != p) = true := by simpa using Lt
        have Ay : Hid (yd (ls.take i) ⟨d1, p, q⟩ = true) := iM (k := k + 1) (by rw [vR Jt.out Mf.out]; simp [tW]; exact Lt) (by omega);have Cu : Hid (xK ds ls i = 18) := by unfold Hid; rw [Ed.out, if_neg (by simp), if_neg (by rw [Ez.out]; simp), if_pos Ay.out]
        have Ex := iD (yu Ku Cu (by decide) n hlt);clear Lt;go_upto_region 17 with (fail);refine fv (fun W' => W'.cell? ⟨b, off + k * 3, none⟩ = some (.int .i64 d1) ∧ W'.cell? ⟨b, off + k * 3 + 1, none⟩ = some (.int .i64 p1) ∧ W'.cell? ⟨b, off + i * 3, none⟩ = some (.int .i64 d1) ∧ W'.cell? ⟨b, off + i * 3 + 1, none⟩ = some (.int .i64 p)) [] ?_ fun AA => ?_
        ·exact BK.out
        try dsimp only at AA
        refine tk 0 53 (mf 24 1) AA ?_;refine tk 1 54 (mf 24 2) AA ?_;refine tk 2 55 (mf 24 3) AA ?_;refine tk 3 56 (mf 24 4) AA ?_;refine tk 4 57 (mf 24 5) AA ?_;refine tk 5 58 (mf 24 6) AA ?_;refine tk 6 59 (mf 24 7) AA ?_;refine tk 7 60 (mf 24 8) AA ?_;refine tk 8 61 (mf 24 9) AA ?_;refine tk 9 62 (mf 24 10) AA ?_;refine tk 10 63 (mf 24 11) AA ?_;refine tk 11 64 (mf 24 12) AA ?_;refine tk 12 65 (mf 24 13) AA ?_;refine tk 13 66 (mf 24 14) AA ?_;refine tk 14 67 (mf 24 15) AA ?_;refine tk 15 68 (mf 24 16) AA ?_;refine tk 16 69 (mf 24 17) AA ?_;refine tk 17 70 (mf 24 18) AA ?_;refine tk 18 71 (mf 24 19) AA ?_;refine tk 19 72 (mf 24 20) AA ?_;refine tk 20 73 (mf 24 21) AA ?_;refine tk 21 74 (mf 24 22) AA ?_;refine tk 22 75 (mf 24 23) AA ?_;refine tk 23 76 (mf 24 24) AA ?_;refine tK ?_;clear AA
        go_wp2_with fail
        go_ret;exact ⟨zC (by rw [HR.out, Ex.out]), AU.drew⟩
      ·have qd : (d1 == d) = false := by simpa using hdd
       have Ay : Hid (yd (ls.take (k + 1)) ⟨d, p, q⟩ = false) := by unfold Hid; rw [vR Jt.out Mf.out]; simp [tW]; intro h; exact absurd h hdd
       clear hdd;go_upto_region 17 with (fail);refine fv (fun W' => W'.cell? ⟨b, off + k * 3, none⟩ = some (.int .i64 d1) ∧ W'.cell? ⟨b, off + k * 3 + 1, none⟩ = some (.int .i64 p1) ∧ W'.cell? ⟨b, off + i * 3, none⟩ = some (.int .i64 d) ∧ W'.cell? ⟨b, off + i * 3 + 1, none⟩ = some (.int .i64 p)) [] ?_ fun AA => ?_
       ·exact BK.out
       try dsimp only at AA
       refine tk 0 53 (mf 24 1) AA ?_;refine tk 1 54 (mf 24 2) AA ?_;refine tk 2 55 (mf 24 3) AA ?_;refine tk 3 56 (mf 24 4) AA ?_;refine tk 4 57 (mf 24 5) AA ?_;refine tk 5 58 (mf 24 6) AA ?_;refine tk 6 59 (mf 24 7) AA ?_;refine tk 7 60 (mf 24 8) AA ?_;refine tk 8 61 (mf 24 9) AA ?_;refine tk 9 62 (mf 24 10) AA ?_;refine tk 10 63 (mf 24 11) AA ?_;refine tk 11 64 (mf 24 12) AA ?_;refine ts 12 65 (mf 24 13) AA ?_;refine ts 13 66 (mf 24 14) AA ?_;refine ts 14 67 (mf 24 15) AA ?_;refine ts 15 68 (mf 24 16) AA ?_;refine ts 16 69 (mf 24 17) AA ?_;refine ts 17 70 (mf 24 18) AA ?_;refine ts 18 71 (mf 24 19) AA ?_;refine ts 19 72 (mf 24 20) AA ?_;refine ts 20 73 (mf 24 21) AA ?_;refine ts 21 74 (mf 24 22) AA ?_;refine ts 22 75 (mf 24 23) AA ?_;refine tk 23 76 (mf 24 24) AA ?_;refine tK ?_;clear AA
       go_wp2_with fail
       go_roundg (i - (k + 1))
       ·exact ⟨k + 1, by go_num, by omega, rfl, Ay, Fy, AU.drew⟩
       omega
     ·obtain rfl : k = i := by omega
      have Jo : decide (k < k) = false := by simp
      go_wp2_with fail
      clear Jo
      go_loopg [9] k (ev w #[.slice An nn cn, .slice Ad nd cd] ls q k)
      case atStart => exact ⟨0, rfl, Nat.zero_le _, rfl, rfl, Fy, AU⟩
      case round =>
       clear Fy AU;obtain ⟨j, rfl, hj, rfl, MX, Fy, AU⟩ := hrel;by_cases QG : j < k
       ·obtain ⟨b1, En, d1, p1, q1, Gh, _, Dr, _, _, e2⟩ := (HS.below AU Dn).lock (i := j) (by omega);injection Gh with Gh; injection Gh with h1 h2; subst h1 h2;obtain ⟨b2, IL, d2, p2, q2, Cc, _, CW, _, _, f2⟩ := (HS.below AU Dn).lock hlt;injection Cc with Cc; injection Cc with h1 h2; subst h1 h2;rw [HX.out] at CW;injection CW with CW; injection CW with h1 h2 h3; subst h1 h2 h3;have Jt := iD Dr;have AH : j < n := by omega
        have BK : Hid (wr.cell? ⟨b, off + j * 3 + 2, none⟩ = some (.int .i64 q1) ∧ wr.cell? ⟨b, off + k * 3 + 2, none⟩ = some (.int .i64 q)) := ⟨e2, f2⟩;clear Dr e2 f2;by_cases Gw : q1 = q
        ·subst Gw;have qd : (q1 == q1) = true := by simp
         have Ay : Hid (yq (ls.take k) q1 = true) := mU (k := j + 1) (by rw [vO Jt.out MX.out]; simp) (by omega);have Cu : Hid (xK ds ls k = 4) := by unfold Hid; rw [Ed.out, if_neg (by simp), if_neg (by rw [Ez.out]; simp), if_neg (by rw [Mf.out]; simp), if_pos Ay.out]
         have Ex := iD (yu Ku Cu (by decide) n hlt);go_upto_region 22 with (fail);refine fv (fun W' => W'.cell? ⟨b, off + j * 3 + 2, none⟩ = some (.int .i64 q1) ∧ W'.cell? ⟨b, off + k * 3 + 2, none⟩ = some (.int .i64 q1)) [] ?_ fun AA => ?_
         ·exact BK.out
         try dsimp only at AA
         refine tk 0 82 (mf 11 1) AA ?_;refine tk 1 83 (mf 11 2) AA ?_;refine tk 2 84 (mf 11 3) AA ?_;refine tk 3 85 (mf 11 4) AA ?_;refine tk 4 86 (mf 11 5) AA ?_;refine tk 5 87 (mf 11 6) AA ?_;refine tk 6 88 (mf 11 7) AA ?_;refine tk 7 89 (mf 11 8) AA ?_;refine tk 8 90 (mf 11 9) AA ?_;refine tk 9 91 (mf 11 10) AA ?_;refine tk 10 92 (mf 11 11) AA ?_;refine tK ?_;clear AA
         go_wp2_with fail
         go_ret;exact ⟨zC (by rw [HR.out, Ex.out]), AU.drew⟩
        ·have qd : (q1 == q) = false := by simpa using Gw
         have Ay : Hid (yq (ls.take (j + 1)) q = false) := by unfold Hid; rw [vO Jt.out MX.out]; simpa using Gw
         clear Gw;go_upto_region 22 with (fail);refine fv (fun W' => W'.cell? ⟨b, off + j * 3 + 2, none⟩ = some (.int .i64 q1) ∧ W'.cell? ⟨b, off + k * 3 + 2, none⟩ = some (.int .i64 q)) [] ?_ fun AA => ?_
         ·exact BK.out
         try dsimp only at AA
         refine tk 0 82 (mf 11 1) AA ?_;refine tk 1 83 (mf 11 2) AA ?_;refine tk 2 84 (mf 11 3) AA ?_;refine tk 3 85 (mf 11 4) AA ?_;refine tk 4 86 (mf 11 5) AA ?_;refine tk 5 87 (mf 11 6) AA ?_;refine tk 6 88 (mf 11 7) AA ?_;refine tk 7 89 (mf 11 8) AA ?_;refine tk 8 90 (mf 11 9) AA ?_;refine tk 9 91 (mf 11 10) AA ?_;refine tk 10 92 (mf 11 11) AA ?_;refine tK ?_;clear AA
         go_wp2_with fail
         go_roundg (k - (j + 1))
         ·exact ⟨j + 1, by go_num, by omega, rfl, Ay, Fy, AU.drew⟩
         omega
       ·obtain rfl : j = k := by omega
        have IV : decide (j < j) = false := by simp
        have Cu : Hid (xK ds ls j = 0) := by unfold Hid; rw [Ed.out, if_neg (by simp), if_neg (by rw [Ez.out]; simp), if_neg (by rw [Mf.out]; simp), if_neg (by rw [MX.out]; simp)]
        have Kj := iD (uG Ku Cu)
        go_wp2_with fail
        go_roundg (n - (j + 1))
        ·exact ⟨j + 1, by go_num, by omega, rfl, Kj, Fy, AU⟩
        omega
   ·obtain ⟨b1, En, d1, p1, q1, Gh, _, Dr, g0, g1, g2⟩ := (HS.below Ai Dn).lock (i := i - 1) (by omega);injection Gh with Gh; injection Gh with h1 h2; subst h1 h2;have Ez := iD (pD (k := ⟨d, p, q⟩) Ml Dr);have BK : Hid (w2.cell? ⟨b, off + (i - 1) * 3, none⟩ = some (.int .i64 d1) ∧ w2.cell? ⟨b, off + (i - 1) * 3 + 1, none⟩ = some (.int .i64 p1) ∧ w2.cell? ⟨b, off + (i - 1) * 3 + 2, none⟩ = some (.int .i64 q1) ∧ w2.cell? ⟨b, off + i * 3, none⟩ = some (.int .i64 d) ∧ w2.cell? ⟨b, off + i * 3 + 1, none⟩ = some (.int .i64 p) ∧ w2.cell? ⟨b, off + i * 3 + 2, none⟩ = some (.int .i64 q)) := ⟨g0, g1, g2, JH.2.2.1, JH.2.2.2.1, JH.2.2.2.2⟩;clear g0 g1 g2 Dr JH;obtain ⟨i1, RV⟩ := eX (i - 1);rw [← RV] at BK;have e1 : IntKind.i64.wrap ((i : Int) - 1) = (i1 : Int) := by rw [IntWalk.i64_in _ (by omega)]; omega
    have AK : i1 < n := by omega
    have qi : decide ((0 : Int) < (i : Int)) = true := by simp; omega
    clear RV;have EY := iD (qL ⟨d1, p1, q1⟩ ⟨d, p, q⟩ w2.drew);generalize zq ⟨d1, p1, q1⟩ ⟨d, p, q⟩ = bb at *;have GJ := Ai.size;go_upto_region 12 with (fail);refine fv (fun W' => W'.cell? ⟨b, off + i1 * 3, none⟩ = some (.int .i64 d1) ∧ W'.cell? ⟨b, off + i1 * 3 + 1, none⟩ = some (.int .i64 p1) ∧ W'.cell? ⟨b, off + i1 * 3 + 2, none⟩ = some (.int .i64 q1) ∧ W'.cell? ⟨b, off + i * 3, none⟩ = some (.int .i64 d) ∧ W'.cell? ⟨b, off + i * 3 + 1, none⟩ = some (.int .i64 p) ∧ W'.cell? ⟨b, off + i * 3 + 2, none⟩ = some (.int .i64 q)) [] ?_ fun AA => ?_
    ·exact BK.out
    try dsimp only at AA
    refine tk 0 33 (mf 15 1) AA ?_;refine tk 1 34 (mf 15 2) AA ?_;refine tk 2 35 (mf 15 3) AA ?_;refine tk 3 36 (mf 15 4) AA ?_;refine tk 4 37 (mf 15 5) AA ?_;refine tk 5 38 (mf 15 6) AA ?_;refine tk 6 39 (mf 15 7) AA ?_;refine tk 7 40 (mf 15 8) AA ?_;refine tk 8 41 (mf 15 9) AA ?_;refine tk 9 42 (mf 15 10) AA ?_;refine tk 10 43 (mf 15 11) AA ?_;refine tk 11 44 (mf 15 12) AA ?_;refine tb 12 (mf 15 13) fun K hK => ?_
    (go_simp; refine EY.mono ?_; rintro e w3 ⟨rfl, BX⟩; go_simp)
    refine hK _ _ (fun _ => ⟨zD BX BK.1, zD BX BK.2.1, zD BX BK.2.2.1, zD BX BK.2.2.2.1, zD BX BK.2.2.2.2.1, zD BX BK.2.2.2.2.2⟩) fun p => (fun AA => ?_) (p rfl)
    clear p hK K;(try dsimp only at AA);refine tk 13 46 (mf 15 14) AA ?_;refine tk 14 47 (mf 15 15) AA ?_;refine tK ?_;clear AA e1;have Mr := (show AJ w2.drew w.heap.size 30 #[.slice An nn cn, .slice Ad nd cd] from EP).below BX EP.lt; have LP := Ai.drew.trans (BX.mono GJ);clear EP Ai BX BK EY;rcases bb with _ | _
    ·have Ex := iD (yu Ku (by rw [Ed.out, if_neg (by simp), if_pos (by rw [Ez.out]; rfl)]) (by decide) n hlt)
     go_wp2_with fail
     go_ret;exact ⟨zC (by rw [HR.out, Ex.out]), LP⟩
    replace Ez : Hid (xH ls i ⟨d, p, q⟩ = false) := by unfold Hid; rw [Ez.out]; rfl
    have EC := iD Mr; have CO := iD LP;clear Mr LP
    go_wp2_with fail
    go_loopg [8] i (ew w #[.slice An nn cn, .slice Ad nd cd] ls ⟨d, p, q⟩ i)
    case atStart => exact ⟨0, rfl, Nat.zero_le _, rfl, rfl, EC, CO⟩
    case round =>
     clear EC CO;obtain ⟨k, rfl, hk, rfl, Mf, Fy, AU⟩ := hrel;by_cases AG : k < i
     ·obtain ⟨b1, En, d1, p1, q1, Gh, _, Dr, e0, e1, _⟩ := (HS.below AU Dn).lock (i := k) (by omega);injection Gh with Gh; injection Gh with h1 h2; subst h1 h2;obtain ⟨b2, IL, d2, p2, q2, Cc, _, CW, f0, f1, _⟩ := (HS.below AU Dn).lock hlt;injection Cc with Cc; injection Cc with h1 h2; subst h1 h2;rw [HX.out] at CW;injection CW with CW; injection CW with h1 h2 h3; subst h1 h2 h3;have Jt := iD Dr;have Gx : k < n := by omega
      have BK : Hid (wr.cell? ⟨b, off + k * 3, none⟩ = some (.int .i64 d1) ∧ wr.cell? ⟨b, off + k * 3 + 1, none⟩ = some (.int .i64 p1) ∧ wr.cell? ⟨b, off + i * 3, none⟩ = some (.int .i64 d) ∧ wr.cell? ⟨b, off + i * 3 + 1, none⟩ = some (.int .i64 p)) := ⟨e0, e1, f0, f1⟩;clear Dr e0 e1 f0 f1;by_cases hdd : d1 = d
      ·subst hdd;have qd : (d1 == d1) = true := by simp
       by_cases Lt : p1 = p
       ·subst Lt;have qp : (p1 != p1) = false := by simp
        have Ay : Hid (yd (ls.take (k + 1)) ⟨d1, p1, q⟩ = false) := by unfold Hid; rw [vR Jt.out Mf.out]; simp [tW]
        go_upto_region 17 with (fail);refine fv (fun W' => W'.cell? ⟨b, off + k * 3, none⟩ = some (.int .i64 d1) ∧ W'.cell? ⟨b, off + k * 3 + 1, none⟩ = some (.int .i64 p1) ∧ W'.cell? ⟨b, off + i * 3, none⟩ = some (.int .i64 d1) ∧ W'.cell? ⟨b, off + i * 3 + 1, none⟩ = some (.int .i64 p1)) [] ?_ fun AA => ?_
        ·exact BK.out
        try dsimp only at AA
        refine tk 0 53 (mf 24 1) AA ?_;refine tk 1 54 (mf 24 2) AA ?_;refine tk 2 55 (mf 24 3) AA ?_;refine tk 3 56 (mf 24 4) AA ?_;refine tk 4 57 (mf 24 5) AA ?_;refine tk 5 58 (mf 24 6) AA ?_;refine tk 6 59 (mf 24 7) AA ?_;refine tk 7 60 (mf 24 8) AA ?_;refine tk 8 61 (mf 24 9) AA ?_;refine tk 9 62 (mf 24 10) AA ?_;refine tk 10 63 (mf 24 11) AA ?_;refine tk 11 64 (mf 24 12) AA ?_;refine tk 12 65 (mf 24 13) AA ?_;refine tk 13 66 (mf 24 14) AA ?_;refine tk 14 67 (mf 24 15) AA ?_;refine tk 15 68 (mf 24 16) AA ?_;refine tk 16 69 (mf 24 17) AA ?_;refine tk 17 70 (mf 24 18) AA ?_;refine tk 18 71 (mf 24 19) AA ?_;refine tk 19 72 (mf 24 20) AA ?_;refine tk 20 73 (mf 24 21) AA ?_;refine tk 21 74 (mf 24 22) AA ?_;refine tk 22 75 (mf 24 23) AA ?_;refine tk 23 76 (mf 24 24) AA ?_;refine tK ?_;clear AA
        go_wp2_with fail
        go_roundg (i - (k + 1))
        ·exact ⟨k + 1, by go_num, by omega, rfl, Ay, Fy, AU.drew⟩
        omega
       ·have qp : (p1 != p) = true := by simpa using Lt
        have Ay : Hid (yd (ls.take i) ⟨d1, p, q⟩ = true) := iM (k := k + 1) (by rw [vR Jt.out Mf.out]; simp [tW]; exact Lt) (by omega);have Cu : Hid (xK ds ls i = 18) := by unfold Hid; rw [Ed.out, if_neg (by simp), if_neg (by rw [Ez.out]; simp), if_pos Ay.out]
        have Ex := iD (yu Ku Cu (by decide) n hlt);clear Lt;go_upto_region 17 with (fail);refine fv (fun W' => W'.cell? ⟨b, off + k * 3, none⟩ = some (.int .i64 d1) ∧ W'.cell? ⟨b, off + k * 3 + 1, none⟩ = some (.int .i64 p1) ∧ W'.cell? ⟨b, off + i * 3, none⟩ = some (.int .i64 d1) ∧ W'.cell? ⟨b, off + i * 3 + 1, none⟩ = some (.int .i64 p)) [] ?_ fun AA => ?_
        ·exact BK.out
        try dsimp only at AA
        refine tk 0 53 (mf 24 1) AA ?_;refine tk 1 54 (mf 24 2) AA ?_;refine tk 2 55 (mf 24 3) AA ?_;refine tk 3 56 (mf 24 4) AA ?_;refine tk 4 57 (mf 24 5) AA ?_;refine tk 5 58 (mf 24 6) AA ?_;refine tk 6 59 (mf 24 7) AA ?_;refine tk 7 60 (mf 24 8) AA ?_;refine tk 8 61 (mf 24 9) AA ?_;refine tk 9 62 (mf 24 10) AA ?_;refine tk 10 63 (mf 24 11) AA ?_;refine tk 11 64 (mf 24 12) AA ?_;refine tk 12 65 (mf 24 13) AA ?_;refine tk 13 66 (mf 24 14) AA ?_;refine tk 14 67 (mf 24 15) AA ?_;refine tk 15 68 (mf 24 16) AA ?_;refine tk 16 69 (mf 24 17) AA ?_;refine tk 17 70 (mf 24 18) AA ?_;refine tk 18 71 (mf 24 19) AA ?_;refine tk 19 72 (mf 24 20) AA ?_;refine tk 20 73 (mf 24 21) AA ?_;refine tk 21 74 (mf 24 22) AA ?_;refine tk 22 75 (mf 24 23) AA ?_;refine tk 23 76 (mf 24 24) AA ?_;refine tK ?_;clear AA
        go_wp2_with fail
        go_ret;exact ⟨zC (by rw [HR.out, Ex.out]), AU.drew⟩
      ·have qd : (d1 == d) = false := by simpa using hdd
       have Ay : Hid (yd (ls.take (k + 1)) ⟨d, p, q⟩ = false) := by unfold Hid; rw [vR Jt.out Mf.out]; simp [tW]; intro h; exact absurd h hdd
       clear hdd;go_upto_region 17 with (fail);refine fv (fun W' => W'.cell? ⟨b, off + k * 3, none⟩ = some (.int .i64 d1) ∧ W'.cell? ⟨b, off + k * 3 + 1, none⟩ = some (.int .i64 p1) ∧ W'.cell? ⟨b, off + i * 3, none⟩ = some (.int .i64 d) ∧ W'.cell? ⟨b, off + i * 3 + 1, none⟩ = some (.int .i64 p)) [] ?_ fun AA => ?_
       ·exact BK.out
       try dsimp only at AA
       refine tk 0 53 (mf 24 1) AA ?_;refine tk 1 54 (mf 24 2) AA ?_;refine tk 2 55 (mf 24 3) AA ?_;refine tk 3 56 (mf 24 4) AA ?_;refine tk 4 57 (mf 24 5) AA ?_;refine tk 5 58 (mf 24 6) AA ?_;refine tk 6 59 (mf 24 7) AA ?_;refine tk 7 60 (mf 24 8) AA ?_;refine tk 8 61 (mf 24 9) AA ?_;refine tk 9 62 (mf 24 10) AA ?_;refine tk 10 63 (mf 24 11) AA ?_;refine tk 11 64 (mf 24 12) AA ?_;refine ts 12 65 (mf 24 13) AA ?_;refine ts 13 66 (mf 24 14) AA ?_;refine ts 14 67 (mf 24 15) AA ?_;refine ts 15 68 (mf 24 16) AA ?_;refine ts 16 69 (mf 24 17) AA ?_;refine ts 17 70 (mf 24 18) AA ?_;refine ts 18 71 (mf 24 19) AA ?_;refine ts 19 72 (mf 24 20) AA ?_;refine ts 20 73 (mf 24 21) AA ?_;refine ts 21 74 (mf 24 22) AA ?_;refine ts 22 75 (mf 24 23) AA ?_;refine tk 23 76 (mf 24 24) AA ?_;refine tK ?_;clear AA
       go_wp2_with fail
       go_roundg (i - (k + 1))
       ·exact ⟨k + 1, by go_num, by omega, rfl, Ay, Fy, AU.drew⟩
       omega
     ·obtain rfl : k = i := by omega
      have Jo : decide (k < k) = false := by simp
      go_wp2_with fail
      clear Jo
      go_loopg [9] k (ev w #[.slice An nn cn, .slice Ad nd cd] ls q k)
      case atStart => exact ⟨0, rfl, Nat.zero_le _, rfl, rfl, Fy, AU⟩
      case round =>
       clear Fy AU;obtain ⟨j, rfl, hj, rfl, MX, Fy, AU⟩ := hrel;by_cases QG : j < k
       ·obtain ⟨b1, En, d1, p1, q1, Gh, _, Dr, _, _, e2⟩ := (HS.below AU Dn).lock (i := j) (by omega);injection Gh with Gh; injection Gh with h1 h2; subst h1 h2;obtain ⟨b2, IL, d2, p2, q2, Cc, _, CW, _, _, f2⟩ := (HS.below AU Dn).lock hlt;injection Cc with Cc; injection Cc with h1 h2; subst h1 h2;rw [HX.out] at CW;injection CW with CW; injection CW with h1 h2 h3; subst h1 h2 h3;have Jt := iD Dr;have AH : j < n := by omega
        have BK : Hid (wr.cell? ⟨b, off + j * 3 + 2, none⟩ = some (.int .i64 q1) ∧ wr.cell? ⟨b, off + k * 3 + 2, none⟩ = some (.int .i64 q)) := ⟨e2, f2⟩;clear Dr e2 f2;by_cases Gw : q1 = q
        ·subst Gw;have qd : (q1 == q1) = true := by simp
         have Ay : Hid (yq (ls.take k) q1 = true) := mU (k := j + 1) (by rw [vO Jt.out MX.out]; simp) (by omega);have Cu : Hid (xK ds ls k = 4) := by unfold Hid; rw [Ed.out, if_neg (by simp), if_neg (by rw [Ez.out]; simp), if_neg (by rw [Mf.out]; simp), if_pos Ay.out]
         have Ex := iD (yu Ku Cu (by decide) n hlt);go_upto_region 22 with (fail);refine fv (fun W' => W'.cell? ⟨b, off + j * 3 + 2, none⟩ = some (.int .i64 q1) ∧ W'.cell? ⟨b, off + k * 3 + 2, none⟩ = some (.int .i64 q1)) [] ?_ fun AA => ?_
         ·exact BK.out
         try dsimp only at AA
         refine tk 0 82 (mf 11 1) AA ?_;refine tk 1 83 (mf 11 2) AA ?_;refine tk 2 84 (mf 11 3) AA ?_;refine tk 3 85 (mf 11 4) AA ?_;refine tk 4 86 (mf 11 5) AA ?_;refine tk 5 87 (mf 11 6) AA ?_;refine tk 6 88 (mf 11 7) AA ?_;refine tk 7 89 (mf 11 8) AA ?_;refine tk 8 90 (mf 11 9) AA ?_;refine tk 9 91 (mf 11 10) AA ?_;refine tk 10 92 (mf 11 11) AA ?_;refine tK ?_;clear AA
         go_wp2_with fail
         go_ret;exact ⟨zC (by rw [HR.out, Ex.out]), AU.drew⟩
        ·have qd : (q1 == q) = false := by simpa using Gw
         have Ay : Hid (yq (ls.take (j + 1)) q = false) := by unfold Hid; rw [vO Jt.out MX.out]; simpa using Gw
         clear Gw;go_upto_region 22 with (fail);refine fv (fun W' => W'.cell? ⟨b, off + j * 3 + 2, none⟩ = some (.int .i64 q1) ∧ W'.cell? ⟨b, off + k * 3 + 2, none⟩ = some (.int .i64 q)) [] ?_ fun AA => ?_
         ·exact BK.out
         try dsimp only at AA
         refine tk 0 82 (mf 11 1) AA ?_;refine tk 1 83 (mf 11 2) AA ?_;refine tk 2 84 (mf 11 3) AA ?_;refine tk 3 85 (mf 11 4) AA ?_;refine tk 4 86 (mf 11 5) AA ?_;refine tk 5 87 (mf 11 6) AA ?_;refine tk 6 88 (mf 11 7) AA ?_;refine tk 7 89 (mf 11 8) AA ?_;refine tk 8 90 (mf 11 9) AA ?_;refine tk 9 91 (mf 11 10) AA ?_;refine tk 10 92 (mf 11 11) AA ?_;refine tK ?_;clear AA
         go_wp2_with fail
         go_roundg (k - (j + 1))
         ·exact ⟨j + 1, by go_num, by omega, rfl, Ay, Fy, AU.drew⟩
         omega
       ·obtain rfl : j = k := by omega
        have IV : decide (j < j) = false := by simp
        have Cu : Hid (xK ds ls j = 0) := by unfold Hid; rw [Ed.out, if_neg (by simp), if_neg (by rw [Ez.out]; simp), if_neg (by rw [Mf.out]; simp), if_neg (by rw [MX.out]; simp)]
        have Kj := iD (uG Ku Cu)
        go_wp2_with fail
        go_roundg (n - (j + 1))
        ·exact ⟨j + 1, by go_num, by omega, rfl, Kj, Fy, AU⟩
        omega
  ·obtain rfl : i = n := by omega
   have Cw : decide (i < i) = false := by simp
   go_wp2_with fail
   go_ret;exact ⟨zC (by rw [HR.out, Ku.out]), AU⟩
end Go.Proofs.YtkkobemhbicjgaaGreatDoor
