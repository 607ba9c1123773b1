import Derived.Test.YtddddlhgaeameaaGreatDoorJ17
import Derived.IntWalk
set_option maxRecDepth 100000
set_option maxHeartbeats 8000000
namespace Go.Proofs.YtddddlhgaeameaaGreatDoor
open Go.RowKit Tryz
variable {ls : List Lk} {i k : Nat}
theorem zD {w w' : World} {p : Addr} {v : Value} (hb : bW w w') (h : w.cell? p = some v) : w'.cell? p = some v := (hb.cell (wU h)).trans h
theorem jX {ds : List Dv} {k : Lk} (hk : ls[i]? = some k) : xH ds ls i = if zy ds k ≠ 0 then zy ds k else if xD ls i k = true then 14 else if yj (ls.take i) k = true then 18 else if yq (ls.take i) k.key = true then 4 else 0 := by unfold xH; rw [hk]
theorem oU (ls : List Lk) (k : Lk) : xD ls 0 k = false := rfl
theorem qU {p k : Lk} (h0 : 0 < i) (hp : ls[i - 1]? = some p) : xD ls i k = !zu p k := by unfold xD; rw [hp, decide_eq_true h0]; simp
def RkR (w : World) (N : Array Value) (ds : List Dv) (ls : List Lk) (n gk : Nat) (iv : Value) (wr : World) : Prop := ∃ i : Nat, iv = .int .i64 i ∧ i ≤ n ∧ gk = n - i ∧ Hid (yN ds ls i = 0) ∧ Hid (AJ wr w.heap.size 26 N) ∧ Hid (bW w wr)
def gV (w : World) (N : Array Value) (ls : List Lk) (cur : Lk) (i gk : Nat) (kv : Value) (wr : World) : Prop := ∃ k : Nat, kv = .int .i64 k ∧ k ≤ i ∧ gk = i - k ∧ Hid (yj (ls.take k) cur = false) ∧ Hid (AJ wr w.heap.size 26 N) ∧ Hid (bW w wr)
def gU (w : World) (N : Array Value) (ls : List Lk) (q : Int) (i gk : Nat) (kv : Value) (wr : World) : Prop := ∃ k : Nat, kv = .int .i64 k ∧ k ≤ i ∧ gk = i - k ∧ Hid (yq (ls.take k) q = false) ∧ Hid (AJ wr w.heap.size 26 N) ∧ Hid (bW w wr)
theorem vL {x cur : Lk} (hx : ls[k]? = some x) (h : yj (ls.take k) cur = false) : yj (ls.take (k + 1)) cur = tQ cur x := by
 unfold yj at *; rw [zO hx, List.any_append, h]; simp
theorem vI {x : Lk} {q : Int} (hx : ls[k]? = some x) (h : yq (ls.take k) q = false) : yq (ls.take (k + 1)) q = decide (x.key = q) := by
 unfold yq at *; rw [zO hx, List.any_append, h]; simp
theorem kw {cur : Lk} (h : yj (ls.take k) cur = true) (hk : k ≤ i) : yj (ls.take i) cur = true := by
 unfold yj at *;rw [List.any_eq_true] at *;obtain ⟨x, hx, hb⟩ := h;exact ⟨x, (List.take_sublist_take_left hk).subset hx, hb⟩
theorem nU {q : Int} (h : yq (ls.take k) q = true) (hk : k ≤ i) : yq (ls.take i) q = true := by
 unfold yq at *;rw [List.any_eq_true] at *;obtain ⟨x, hx, hb⟩ := h;exact ⟨x, (List.take_sublist_take_left hk).subset hx, hb⟩
theorem vy (An Ad Al : Option Addr) (nn cn nd cd n c Bn Bd Bl : Nat) (ns : List Nd) (ds : List Dv) (ls : List Lk) (w : World) (hn : Sl w Bn 3 An nn cn (ns.flatMap Nd.cells)) (hd : Sl w Bd 5 Ad nd cd (ds.flatMap Dv.cells)) (hs : Sl w Bl 3 Al n c (ls.flatMap Lk.cells)) (Ce : Bn ≤ w.heap.size) (BN : Bd ≤ w.heap.size) (Df : Bl ≤ w.heap.size)
 (Bj : FO ns) (Bc : GH ds) :
 Calls prog 54 #[.agg #[.slice An nn cn, .slice Ad nd cd], .slice Al n c] w fun e w' => e = .returned (.int .i64 (zH ns ds ls)) ∧ bW w w' := by
 have JV := iD (hs.len (fun _ => rfl) (by decide));have Cy := iD (vY An Ad nn cn nd cd Bn Bd ns ds (w.alloc (.cells #[.slice An nn cn, .slice Ad nd cd] 26)) (hn.alloc Ce _) (hd.alloc BN _) (by simp; omega) (by simp; omega) Bj Bc);have HE : Hid (zH ns ds ls = if zR ns ds ≠ 0 then zR ns ds else if 128 < n then 1 else yN ds ls n) := by unfold Hid zH; rw [JV.out]
 have HD := iD hd; have HS := iD hs;have hle := hs.le;have HK := iD (AJ.new w 26 #[.slice An nn cn, .slice Ad nd cd]);have BF : Hid (Below w.heap.size w (w.alloc (.cells #[.slice An nn cn, .slice Ad nd cd] 26))) := (Below.refl _ _).alloc lR _;clear hn hd hs Bj Bc;generalize zR ns ds = er at *;by_cases h0 : er = 0; rotate_left
 ·have h0' : (er != 0) = true := by simpa using h0
  have HR : Hid (zH ns ds ls = er) := by unfold Hid; rw [HE.out, if_pos h0]
  clear h0
  go_enter func54, ntmps54
  go_wp2_with fail
  refine Cy.mono ?_;rintro e w1 ⟨rfl, AX⟩
  go_wp2_with fail
  go_ret;exact ⟨zC (by rw [HR.out]), BF.trans (AX.mono (by simp))⟩
 subst h0;by_cases El : 128 < n
 ·have q : decide ((128 : Int) < (n : Int)) = true := by simp; omega
  have HR : Hid (zH ns ds ls = 1) := by unfold Hid; rw [HE.out, if_neg (by simp), if_pos El]
  go_enter func54, ntmps54
  go_wp2_with fail
  refine Cy.mono ?_;rintro e w1 ⟨rfl, AX⟩
  go_wp2_with fail
  go_ret;exact ⟨zC (by rw [HR.out]), BF.trans (AX.mono (by simp))⟩
 have q : decide ((128 : Int) < (n : Int)) = false := by simp; omega
 have HR : Hid (zH ns ds ls = yN ds ls n) := by unfold Hid; rw [HE.out, if_neg (by simp), if_neg El]
 have Nj : n ≤ 128 := by omega
 clear HE El
 go_enter func54, ntmps54
 go_wp2_with fail
 refine Cy.mono ?_;rintro e w1 ⟨rfl, AX⟩;have DV := iD (HK.below AX (by simp));have AL := iD (BF.trans (AX.mono (by simp)));clear AX Cy HK BF
 go_wp2_with fail
 clear q
 go_loopg [6] n (RkR w #[.slice An nn cn, .slice Ad nd cd] ds ls n)
 case atStart => exact ⟨0, rfl, Nat.zero_le _, rfl, rfl, DV, AL⟩
 case round =>
  clear DV AL;obtain ⟨i, rfl, hi, rfl, Lm, GR, AZ⟩ := hrel;by_cases hlt : i < n
  ·obtain ⟨b, off, d, p, q, rfl, hb, hx, c0, c1, c2⟩ := (HS.below AZ Df).lock hlt;have HX := iD hx;have Fa := iD (jX (ds := ds) hx);obtain ⟨k0, k1⟩ := GR.d2;have Rx := AZ.size;have Md := iD (rH An Ad nn cn nd cd Bd ds d p q wr.drew (HD.below AZ.drew BN) (by simp; omega));have BK : Hid (wr.cell? ⟨w.heap.size, 0, none⟩ = some (.slice An nn cn) ∧ wr.cell? ⟨w.heap.size, 1, none⟩ = some (.slice Ad nd cd) ∧ wr.cell? ⟨b, off + i * 3, none⟩ = some (.int .i64 d) ∧ wr.cell? ⟨b, off + i * 3 + 1, none⟩ = some (.int .i64 p) ∧ wr.cell? ⟨b, off + i * 3 + 2, none⟩ = some (.int .i64 q)) := ⟨k0, k1, c0, c1, c2⟩;clear hx k0 k1 c0 c1 c2;generalize zy ds ⟨d, p, q⟩ = er at *;go_upto_region 9 with (fail)
   refine fX (fun W' => W'.cell? ⟨w.heap.size, 0, none⟩ = some (.slice An nn cn) ∧ W'.cell? ⟨w.heap.size, 1, none⟩ = some (.slice Ad nd cd) ∧ W'.cell? ⟨b, off + i * 3, none⟩ = some (.int .i64 d) ∧ W'.cell? ⟨b, off + i * 3 + 1, none⟩ = some (.int .i64 p) ∧ W'.cell? ⟨b, off + i * 3 + 2, none⟩ = some (.int .i64 q)) [] ?_ fun AA => ?_
   ·exact BK.out
   try dsimp only at AA
   refine tk 0 24 (mf 7 1) AA ?_;refine tk 1 25 (mf 7 2) AA ?_;refine tk 2 26 (mf 7 3) AA ?_;refine tk 3 27 (mf 7 4) AA ?_;refine tk 4 28 (mf 7 5) AA ?_;refine tb 5 (mf 7 6) fun K hK => ?_
   (go_simp; refine Md.mono ?_; rintro e w2 ⟨rfl, AQ⟩; go_simp)
   refine hK _ _ (fun _ => ⟨zD AQ BK.1, zD AQ BK.2.1, zD AQ BK.2.2.1, zD AQ BK.2.2.2.1, zD AQ BK.2.2.2.2⟩) fun p => (fun AA => ?_) (p rfl)
   clear p hK K;(try dsimp only at AA);refine tk 6 7 (mf 7 7) AA ?_;refine tK ?_;have AY := iD (AZ.drew.trans (AQ.mono Rx));have EE := iD ((show AJ wr.drew w.heap.size 26 #[.slice An nn cn, .slice Ad nd cd] from GR).below AQ GR.lt);have NP := iD AA;clear AA AQ AZ GR BK Md Rx;by_cases he : er = 0; rotate_left
   ·have qe : (er != 0) = true := by simpa using he
    have Im := iD (yt Lm (by rw [Fa.out, if_pos he]) he n hlt);clear he
    go_wp2_with fail
    go_ret;exact ⟨zC (by rw [HR.out, Im.out]), AY⟩
   subst he;rcases Nat.eq_zero_or_pos i with Ll | Ll
   ·have qi : decide ((0 : Int) < (i : Int)) = false := by simp; omega
    have AH : decide (0 < i) = false := by simp; omega
    have EJ : Hid (xD ls i ⟨d, p, q⟩ = false) := by rw [Ll]; exact oU _ _
    clear Ll;go_upto_region 12 with (fail);refine fX (fun _ => True) [] ?_ fun AA => ?_
    ·exact trivial
    try dsimp only at AA
    refine tk 0 33 (mf 15 1) AA ?_;refine tk 1 34 (mf 15 2) AA ?_;refine tk 2 35 (mf 15 3) AA ?_;refine ts 3 36 (mf 15 4) AA ?_;refine ts 4 37 (mf 15 5) AA ?_;refine ts 5 38 (mf 15 6) AA ?_;refine ts 6 39 (mf 15 7) AA ?_;refine ts 7 40 (mf 15 8) AA ?_;refine ts 8 41 (mf 15 9) AA ?_;refine ts 9 42 (mf 15 10) AA ?_;refine ts 10 43 (mf 15 11) AA ?_;refine ts 11 44 (mf 15 12) AA ?_;refine ts 12 45 (mf 15 13) AA ?_;refine ts 13 46 (mf 15 14) AA ?_;refine tk 14 47 (mf 15 15) AA ?_;refine tK ?_;clear AA;have Ns := EE.out; have MP := AY.drew;clear EE AY NP;have EL := iD Ns; have CS := iD MP;clear Ns MP
    go_wp2_with fail
    go_loopg [8] i (gV w #[.slice An nn cn, .slice Ad nd cd] ls ⟨d, p, q⟩ i)
    case atStart => exact ⟨0, rfl, Nat.zero_le _, rfl, rfl, EL, CS⟩
    case round =>
     clear EL CS;obtain ⟨k, rfl, hk, rfl, Nh, GR, AZ⟩ := hrel;by_cases AB : k < i
     ·obtain ⟨b1, Ep, d1, p1, q1, Ew, _, Di, e0, e1, _⟩ := (HS.below AZ Df).lock (i := k) (by omega);injection Ew with Ew; injection Ew with h1 h2; subst h1 h2;obtain ⟨b2, II, d2, p2, q2, Cm, _, Ca, f0, f1, _⟩ := (HS.below AZ Df).lock hlt;injection Cm with Cm; injection Cm with h1 h2; subst h1 h2;rw [HX.out] at Ca;injection Ca with Ca; injection Ca with h1 h2 h3; subst h1 h2 h3;have KR := iD Di;have IM : k < n := by omega
      have BK : Hid (wr.cell? ⟨b, off + k * 3, none⟩ = some (.int .i64 d1) ∧ wr.cell? ⟨b, off + k * 3 + 1, none⟩ = some (.int .i64 p1) ∧ wr.cell? ⟨b, off + i * 3, none⟩ = some (.int .i64 d) ∧ wr.cell? ⟨b, off + i * 3 + 1, none⟩ = some (.int .i64 p)) := ⟨e0, e1, f0, f1⟩;clear Di e0 e1 f0 f1;by_cases hdd : d1 = d
      ·subst hdd;have qd : (d1 == d1) = true := by simp
       by_cases Ml : p1 = p
       ·subst Ml;have qp : (p1 != p1) = false := by simp
        have BQ : Hid (yj (ls.take (k + 1)) ⟨d1, p1, q⟩ = false) := by unfold Hid; rw [vL KR.out Nh.out]; simp [tQ]
        go_upto_region 17 with (fail);refine fX (fun W' => W'.cell? ⟨b, off + k * 3, none⟩ = some (.int .i64 d1) ∧ W'.cell? ⟨b, off + k * 3 + 1, none⟩ = some (.int .i64 p1) ∧ W'.cell? ⟨b, off + i * 3, none⟩ = some (.int .i64 d1) ∧ W'.cell? ⟨b, off + i * 3 + 1, none⟩ = some (.int .i64 p1)) [] ?_ fun AA => ?_
        ·exact BK.out
        try dsimp only at AA
        refine tk 0 53 (mf 24 1) AA ?_;refine tk 1 54 (mf 24 2) AA ?_;refine tk 2 55 (mf 24 3) AA ?_;refine tk 3 56 (mf 24 4) AA ?_;refine tk 4 57 (mf 24 5) AA ?_;refine tk 5 58 (mf 24 6) AA ?_;refine tk 6 59 (mf 24 7) AA ?_;refine tk 7 60 (mf 24 8) AA ?_;refine tk 8 61 (mf 24 9) AA ?_;refine tk 9 62 (mf 24 10) AA ?_;refine tk 10 63 (mf 24 11) AA ?_;refine tk 11 64 (mf 24 12) AA ?_;refine tk 12 65 (mf 24 13) AA ?_;refine tk 13 66 (mf 24 14) AA ?_;refine tk 14 67 (mf 24 15) AA ?_;refine tk 15 68 (mf 24 16) AA ?_;refine tk 16 69 (mf 24 17) AA ?_;refine tk 17 70 (mf 24 18) AA ?_;refine tk 18 71 (mf 24 19) AA ?_;refine tk 19 72 (mf 24 20) AA ?_;refine tk 20 73 (mf 24 21) AA ?_;refine tk 21 74 (mf 24 22) AA ?_;refine tk 22 75 (mf 24 23) AA ?_;refine tk 23 76 (mf 24 24) AA ?_;refine tK ?_;clear AA
        go_wp2_with fail
        go_roundg (i - (k + 1))
        ·exact ⟨k + 1, by go_num, by omega, rfl, BQ, GR, AZ.drew⟩
        omega
       ·have qp : (p1 != p) = true := by simpa using Ml
        have BQ : Hid (yj (ls.take i) ⟨d1, p, q⟩ = true) := kw (k := k + 1) (by rw [vL KR.out Nh.out]; simp [tQ]; exact Ml) (by omega);have CJ : Hid (xH ds ls i = 18) := by unfold Hid; rw [Fa.out, if_neg (by simp), if_neg (by rw [EJ.out]; simp), if_pos BQ.out]
        have Im := iD (yt Lm CJ (by decide) n hlt);clear Ml;go_upto_region 17 with (fail);refine fX (fun W' => W'.cell? ⟨b, off + k * 3, none⟩ = some (.int .i64 d1) ∧ W'.cell? ⟨b, off + k * 3 + 1, none⟩ = some (.int .i64 p1) ∧ W'.cell? ⟨b, off + i * 3, none⟩ = some (.int .i64 d1) ∧ W'.cell? ⟨b, off + i * 3 + 1, none⟩ = some (.int .i64 p)) [] ?_ fun AA => ?_
        ·exact BK.out
        try dsimp only at AA
        refine tk 0 53 (mf 24 1) AA ?_;refine tk 1 54 (mf 24 2) AA ?_;refine tk 2 55 (mf 24 3) AA ?_;refine tk 3 56 (mf 24 4) AA ?_;refine tk 4 57 (mf 24 5) AA ?_;refine tk 5 58 (mf 24 6) AA ?_;refine tk 6 59 (mf 24 7) AA ?_;refine tk 7 60 (mf 24 8) AA ?_;refine tk 8 61 (mf 24 9) AA ?_;refine tk 9 62 (mf 24 10) AA ?_;refine tk 10 63 (mf 24 11) AA ?_;refine tk 11 64 (mf 24 12) AA ?_;refine tk 12 65 (mf 24 13) AA ?_;refine tk 13 66 (mf 24 14) AA ?_;refine tk 14 67 (mf 24 15) AA ?_;refine tk 15 68 (mf 24 16) AA ?_;refine tk 16 69 (mf 24 17) AA ?_;refine tk 17 70 (mf 24 18) AA ?_;refine tk 18 71 (mf 24 19) AA ?_;refine tk 19 72 (mf 24 20) AA ?_;refine tk 20 73 (mf 24 21) AA ?_;refine tk 21 74 (mf 24 22) AA ?_;refine tk 22 75 (mf 24 23) AA ?_;refine tk 23 76 (mf 24 24) AA ?_;refine tK ?_;clear AA
        go_wp2_with fail
        go_ret;exact ⟨zC (by rw [HR.out, Im.out]), AZ.drew⟩
      ·have qd : (d1 == d) = false := by simpa using hdd
       have BQ : Hid (yj (ls.take (k + 1)) ⟨d, p, q⟩ = false) := by unfold Hid; rw [vL KR.out Nh.out]; simp [tQ]; intro h; exact absurd h hdd
       clear hdd;go_upto_region 17 with (fail);refine fX (fun W' => W'.cell? ⟨b, off + k * 3, none⟩ = some (.int .i64 d1) ∧ W'.cell? ⟨b, off + k * 3 + 1, none⟩ = some (.int .i64 p1) ∧ W'.cell? ⟨b, off + i * 3, none⟩ = some (.int .i64 d) ∧ W'.cell? ⟨b, off + i * 3 + 1, none⟩ = some (.int .i64 p)) [] ?_ fun AA => ?_
       ·exact BK.out
       try dsimp only at AA
       refine tk 0 53 (mf 24 1) AA ?_;refine tk 1 54 (mf 24 2) AA ?_;refine tk 2 55 (mf 24 3) AA ?_;refine tk 3 56 (mf 24 4) AA ?_;refine tk 4 57 (mf 24 5) AA ?_;refine tk 5 58 (mf 24 6) AA ?_;refine tk 6 59 (mf 24 7) AA ?_;refine tk 7 60 (mf 24 8) AA ?_;refine tk 8 61 (mf 24 9) AA ?_;refine tk 9 62 (mf 24 10) AA ?_;refine tk 10 63 (mf 24 11) AA ?_;refine tk 11 64 (mf 24 12) AA ?_;refine ts 12 65 (mf 24 13) AA ?_;refine ts 13 66 (mf 24 14) AA ?_;refine ts 14 67 (mf 24 15) AA ?_;refine ts 15 68 (mf 24 16) AA ?_;refine ts 16 69 (mf 24 17) AA ?_;refine ts 17 70 (mf 24 18) AA ?_;refine ts 18 71 (mf 24 19) AA ?_;refine ts 19 72 (mf 24 20) AA ?_;refine ts 20 73 (mf 24 21) AA ?_;refine ts 21 74 (mf 24 22) AA ?_;refine ts 22 75 (mf 24 23) AA ?_;refine tk 23 76 (mf 24 24) AA ?_;refine tK ?_;clear AA
       go_wp2_with fail
       go_roundg (i - (k + 1))
       ·exact ⟨k + 1, by go_num, by omega, rfl, BQ, GR, AZ.drew⟩
       omega
     ·obtain rfl : k = i := by omega
      have UV : decide (k < k) = false := by simp
      go_wp2_with fail
      clear UV
      go_loopg [9] k (gU w #[.slice An nn cn, .slice Ad nd cd] ls q k)
      case atStart => exact ⟨0, rfl, Nat.zero_le _, rfl, rfl, GR, AZ⟩
      case round =>
       clear GR AZ;obtain ⟨j, rfl, hj, rfl, Nc, GR, AZ⟩ := hrel;by_cases SY : j < k
       ·obtain ⟨b1, Ep, d1, p1, q1, Ew, _, Di, _, _, e2⟩ := (HS.below AZ Df).lock (i := j) (by omega);injection Ew with Ew; injection Ew with h1 h2; subst h1 h2;obtain ⟨b2, II, d2, p2, q2, Cm, _, Ca, _, _, f2⟩ := (HS.below AZ Df).lock hlt;injection Cm with Cm; injection Cm with h1 h2; subst h1 h2;rw [HX.out] at Ca;injection Ca with Ca; injection Ca with h1 h2 h3; subst h1 h2 h3;have KR := iD Di;have AE : j < n := by omega
        have BK : Hid (wr.cell? ⟨b, off + j * 3 + 2, none⟩ = some (.int .i64 q1) ∧ wr.cell? ⟨b, off + k * 3 + 2, none⟩ = some (.int .i64 q)) := ⟨e2, f2⟩;clear Di e2 f2;by_cases Gc : q1 = q
        ·subst Gc;have qd : (q1 == q1) = true := by simp
         have BQ : Hid (yq (ls.take k) q1 = true) := nU (k := j + 1) (by rw [vI KR.out Nc.out]; simp) (by omega);have CJ : Hid (xH ds ls k = 4) := by unfold Hid; rw [Fa.out, if_neg (by simp), if_neg (by rw [EJ.out]; simp), if_neg (by rw [Nh.out]; simp), if_pos BQ.out]
         have Im := iD (yt Lm CJ (by decide) n hlt);go_upto_region 22 with (fail);refine fX (fun W' => W'.cell? ⟨b, off + j * 3 + 2, none⟩ = some (.int .i64 q1) ∧ W'.cell? ⟨b, off + k * 3 + 2, none⟩ = some (.int .i64 q1)) [] ?_ fun AA => ?_
         ·exact BK.out
         try dsimp only at AA
         refine tk 0 82 (mf 11 1) AA ?_;refine tk 1 83 (mf 11 2) AA ?_;refine tk 2 84 (mf 11 3) AA ?_;refine tk 3 85 (mf 11 4) AA ?_;refine tk 4 86 (mf 11 5) AA ?_;refine tk 5 87 (mf 11 6) AA ?_;refine tk 6 88 (mf 11 7) AA ?_;refine tk 7 89 (mf 11 8) AA ?_;refine tk 8 90 (mf 11 9) AA ?_;refine tk 9 91 (mf 11 10) AA ?_;refine tk 10 92 (mf 11 11) AA ?_;refine tK ?_;clear AA
         go_wp2_with fail
         go_ret;exact ⟨zC (by rw [HR.out, Im.out]), AZ.drew⟩
        ·have qd : (q1 == q) = false := by simpa using Gc
         have BQ : Hid (yq (ls.take (j + 1)) q = false) := by unfold Hid; rw [vI KR.out Nc.out]; simpa using Gc
         clear Gc;go_upto_region 22 with (fail);refine fX (fun W' => W'.cell? ⟨b, off + j * 3 + 2, none⟩ = some (.int .i64 q1) ∧ W'.cell? ⟨b, off + k * 3 + 2, none⟩ = some (.int .i64 q)) [] ?_ fun AA => ?_
         ·exact BK.out
         try dsimp only at AA
         refine tk 0 82 (mf 11 1) AA ?_;refine tk 1 83 (mf 11 2) AA ?_;refine tk 2 84 (mf 11 3) AA ?_;refine tk 3 85 (mf 11 4) AA ?_;refine tk 4 86 (mf 11 5) AA ?_;refine tk 5 87 (mf 11 6) AA ?_;refine tk 6 88 (mf 11 7) AA ?_;refine tk 7 89 (mf 11 8) AA ?_;refine tk 8 90 (mf 11 9) AA ?_;refine tk 9 91 (mf 11 10) AA ?_;refine tk 10 92 (mf 11 11) AA ?_;refine tK ?_;clear AA
         go_wp2_with fail
         go_roundg (k - (j + 1))
         ·exact ⟨j + 1, by go_num, by omega, rfl, BQ, GR, AZ.drew⟩
         omega
       ·obtain rfl : j = k := by omega
        have KJ : decide (j < j) = false := by simp
        have CJ : Hid (xH ds ls j = 0) := by unfold Hid; rw [Fa.out, if_neg (by simp), if_neg (by rw [EJ.out]; simp), if_neg (by rw [Nh.out]; simp), if_neg (by rw [Nc.out]; simp)]
        have BI := iD (uF Lm CJ)
        go_wp2_with fail
        go_roundg (n - (j + 1))
        ·exact ⟨j + 1, by go_num, by omega, rfl, BI, GR, AZ⟩
        omega
   ·obtain ⟨b1, Ep, d1, p1, q1, Ew, _, Di, g0, g1, g2⟩ := (HS.below AY Df).lock (i := i - 1) (by omega);injection Ew with Ew; injection Ew with h1 h2; subst h1 h2;have EJ := iD (qU (k := ⟨d, p, q⟩) Ll Di);have BK : Hid (w2.cell? ⟨b, off + (i - 1) * 3, none⟩ = some (.int .i64 d1) ∧ w2.cell? ⟨b, off + (i - 1) * 3 + 1, none⟩ = some (.int .i64 p1) ∧ w2.cell? ⟨b, off + (i - 1) * 3 + 2, none⟩ = some (.int .i64 q1) ∧ w2.cell? ⟨b, off + i * 3, none⟩ = some (.int .i64 d) ∧ w2.cell? ⟨b, off + i * 3 + 1, none⟩ = some (.int .i64 p) ∧ w2.cell? ⟨b, off + i * 3 + 2, none⟩ = some (.int .i64 q)) := ⟨g0, g1, g2, NP.2.2.1, NP.2.2.2.1, NP.2.2.2.2⟩;clear g0 g1 g2 Di NP;obtain ⟨i1, Sa⟩ := eX (i - 1);rw [← Sa] at BK;have e1 : IntKind.i64.wrap ((i : Int) - 1) = (i1 : Int) := by rw [IntWalk.i64_in _ (by omega)]; omega
    have AG : i1 < n := by omega
    have qi : decide ((0 : Int) < (i : Int)) = true := by simp; omega
    clear Sa;have DX := iD (rf ⟨d1, p1, q1⟩ ⟨d, p, q⟩ w2.drew);generalize zu ⟨d1, p1, q1⟩ ⟨d, p, q⟩ = bb at *;have GD := AY.size;go_upto_region 12 with (fail);refine fX (fun W' => W'.cell? ⟨b, off + i1 * 3, none⟩ = some (.int .i64 d1) ∧ W'.cell? ⟨b, off + i1 * 3 + 1, none⟩ = some (.int .i64 p1) ∧ W'.cell? ⟨b, off + i1 * 3 + 2, none⟩ = some (.int .i64 q1) ∧ W'.cell? ⟨b, off + i * 3, none⟩ = some (.int .i64 d) ∧ W'.cell? ⟨b, off + i * 3 + 1, none⟩ = some (.int .i64 p) ∧ W'.cell? ⟨b, off + i * 3 + 2, none⟩ = some (.int .i64 q)) [] ?_ fun AA => ?_
    ·exact BK.out
    try dsimp only at AA
    refine tk 0 33 (mf 15 1) AA ?_;refine tk 1 34 (mf 15 2) AA ?_;refine tk 2 35 (mf 15 3) AA ?_;refine tk 3 36 (mf 15 4) AA ?_;refine tk 4 37 (mf 15 5) AA ?_;refine tk 5 38 (mf 15 6) AA ?_;refine tk 6 39 (mf 15 7) AA ?_;refine tk 7 40 (mf 15 8) AA ?_;refine tk 8 41 (mf 15 9) AA ?_;refine tk 9 42 (mf 15 10) AA ?_;refine tk 10 43 (mf 15 11) AA ?_;refine tk 11 44 (mf 15 12) AA ?_;refine tb 12 (mf 15 13) fun K hK => ?_
    (go_simp; refine DX.mono ?_; rintro e w3 ⟨rfl, BJ⟩; go_simp)
    refine hK _ _ (fun _ => ⟨zD BJ BK.1, zD BJ BK.2.1, zD BJ BK.2.2.1, zD BJ BK.2.2.2.1, zD BJ BK.2.2.2.2.1, zD BJ BK.2.2.2.2.2⟩) fun p => (fun AA => ?_) (p rfl)
    clear p hK K;(try dsimp only at AA);refine tk 13 46 (mf 15 14) AA ?_;refine tk 14 47 (mf 15 15) AA ?_;refine tK ?_;clear AA e1;have Ns := (show AJ w2.drew w.heap.size 26 #[.slice An nn cn, .slice Ad nd cd] from EE).below BJ EE.lt; have MP := AY.drew.trans (BJ.mono GD);clear EE AY BJ BK DX;rcases bb with _ | _
    ·have Im := iD (yt Lm (by rw [Fa.out, if_neg (by simp), if_pos (by rw [EJ.out]; rfl)]) (by decide) n hlt)
     go_wp2_with fail
     go_ret;exact ⟨zC (by rw [HR.out, Im.out]), MP⟩
    replace EJ : Hid (xD ls i ⟨d, p, q⟩ = false) := by unfold Hid; rw [EJ.out]; rfl
    have EL := iD Ns; have CS := iD MP;clear Ns MP
    go_wp2_with fail
    go_loopg [8] i (gV w #[.slice An nn cn, .slice Ad nd cd] ls ⟨d, p, q⟩ i)
    case atStart => exact ⟨0, rfl, Nat.zero_le _, rfl, rfl, EL, CS⟩
    case round =>
     clear EL CS;obtain ⟨k, rfl, hk, rfl, Nh, GR, AZ⟩ := hrel;by_cases AB : k < i
     ·obtain ⟨b1, Ep, d1, p1, q1, Ew, _, Di, e0, e1, _⟩ := (HS.below AZ Df).lock (i := k) (by omega);injection Ew with Ew; injection Ew with h1 h2; subst h1 h2;obtain ⟨b2, II, d2, p2, q2, Cm, _, Ca, f0, f1, _⟩ := (HS.below AZ Df).lock hlt;injection Cm with Cm; injection Cm with h1 h2; subst h1 h2;rw [HX.out] at Ca;injection Ca with Ca; injection Ca with h1 h2 h3; subst h1 h2 h3;have KR := iD Di;have IM : k < n := by omega
      have BK : Hid (wr.cell? ⟨b, off + k * 3, none⟩ = some (.int .i64 d1) ∧ wr.cell? ⟨b, off + k * 3 + 1, none⟩ = some (.int .i64 p1) ∧ wr.cell? ⟨b, off + i * 3, none⟩ = some (.int .i64 d) ∧ wr.cell? ⟨b, off + i * 3 + 1, none⟩ = some (.int .i64 p)) := ⟨e0, e1, f0, f1⟩;clear Di e0 e1 f0 f1;by_cases hdd : d1 = d
      ·subst hdd;have qd : (d1 == d1) = true := by simp
       by_cases Ml : p1 = p
       ·subst Ml;have qp : (p1 != p1) = false := by simp
        have BQ : Hid (yj (ls.take (k + 1)) ⟨d1, p1, q⟩ = false) := by unfold Hid; rw [vL KR.out Nh.out]; simp [tQ]
        go_upto_region 17 with (fail);refine fX (fun W' => W'.cell? ⟨b, off + k * 3, none⟩ = some (.int .i64 d1) ∧ W'.cell? ⟨b, off + k * 3 + 1, none⟩ = some (.int .i64 p1) ∧ W'.cell? ⟨b, off + i * 3, none⟩ = some (.int .i64 d1) ∧ W'.cell? ⟨b, off + i * 3 + 1, none⟩ = some (.int .i64 p1)) [] ?_ fun AA => ?_
        ·exact BK.out
        try dsimp only at AA
        refine tk 0 53 (mf 24 1) AA ?_;refine tk 1 54 (mf 24 2) AA ?_;refine tk 2 55 (mf 24 3) AA ?_;refine tk 3 56 (mf 24 4) AA ?_;refine tk 4 57 (mf 24 5) AA ?_;refine tk 5 58 (mf 24 6) AA ?_;refine tk 6 59 (mf 24 7) AA ?_;refine tk 7 60 (mf 24 8) AA ?_;refine tk 8 61 (mf 24 9) AA ?_;refine tk 9 62 (mf 24 10) AA ?_;refine tk 10 63 (mf 24 11) AA ?_;refine tk 11 64 (mf 24 12) AA ?_;refine tk 12 65 (mf 24 13) AA ?_;refine tk 13 66 (mf 24 14) AA ?_;refine tk 14 67 (mf 24 15) AA ?_;refine tk 15 68 (mf 24 16) AA ?_;refine tk 16 69 (mf 24 17) AA ?_;refine tk 17 70 (mf 24 18) AA ?_;refine tk 18 71 (mf 24 19) AA ?_;refine tk 19 72 (mf 24 20) AA ?_;refine tk 20 73 (mf 24 21) AA ?_;refine tk 21 74 (mf 24 22) AA ?_;refine tk 22 75 (mf 24 23) AA ?_;refine tk 23 76 (mf 24 24) AA ?_;refine tK ?_;clear AA
        go_wp2_with fail
        go_roundg (i - (k + 1))
        ·exact ⟨k + 1, by go_num, by omega, rfl, BQ, GR, AZ.drew⟩
        omega
       ·have qp : (p1 != p) = true := by simpa using Ml
        have BQ : Hid (yj (ls.take i) ⟨d1, p, q⟩ = true) := kw (k := k + 1) (by rw [vL KR.out Nh.out]; simp [tQ]; exact Ml) (by omega);have CJ : Hid (xH ds ls i = 18) := by unfold Hid; rw [Fa.out, if_neg (by simp), if_neg (by rw [EJ.out]; simp), if_pos BQ.out]
        have Im := iD (yt Lm CJ (by decide) n hlt);clear Ml;go_upto_region 17 with (fail);refine fX (fun W' => W'.cell? ⟨b, off + k * 3, none⟩ = some (.int .i64 d1) ∧ W'.cell? ⟨b, off + k * 3 + 1, none⟩ = some (.int .i64 p1) ∧ W'.cell? ⟨b, off + i * 3, none⟩ = some (.int .i64 d1) ∧ W'.cell? ⟨b, off + i * 3 + 1, none⟩ = some (.int .i64 p)) [] ?_ fun AA => ?_
        ·exact BK.out
        try dsimp only at AA
        refine tk 0 53 (mf 24 1) AA ?_;refine tk 1 54 (mf 24 2) AA ?_;refine tk 2 55 (mf 24 3) AA ?_;refine tk 3 56 (mf 24 4) AA ?_;refine tk 4 57 (mf 24 5) AA ?_;refine tk 5 58 (mf 24 6) AA ?_;refine tk 6 59 (mf 24 7) AA ?_;refine tk 7 60 (mf 24 8) AA ?_;refine tk 8 61 (mf 24 9) AA ?_;refine tk 9 62 (mf 24 10) AA ?_;refine tk 10 63 (mf 24 11) AA ?_;refine tk 11 64 (mf 24 12) AA ?_;refine tk 12 65 (mf 24 13) AA ?_;refine tk 13 66 (mf 24 14) AA ?_;refine tk 14 67 (mf 24 15) AA ?_;refine tk 15 68 (mf 24 16) AA ?_;refine tk 16 69 (mf 24 17) AA ?_;refine tk 17 70 (mf 24 18) AA ?_;refine tk 18 71 (mf 24 19) AA ?_;refine tk 19 72 (mf 24 20) AA ?_;refine tk 20 73 (mf 24 21) AA ?_;refine tk 21 74 (mf 24 22) AA ?_;refine tk 22 75 (mf 24 23) AA ?_;refine tk 23 76 (mf 24 24) AA ?_;refine tK ?_;clear AA
        go_wp2_with fail
        go_ret;exact ⟨zC (by rw [HR.out, Im.out]), AZ.drew⟩
      ·have qd : (d1 == d) = false := by simpa using hdd
       have BQ : Hid (yj (ls.take (k + 1)) ⟨d, p, q⟩ = false) := by unfold Hid; rw [vL KR.out Nh.out]; simp [tQ]; intro h; exact absurd h hdd
       clear hdd;go_upto_region 17 with (fail);refine fX (fun W' => W'.cell? ⟨b, off + k * 3, none⟩ = some (.int .i64 d1) ∧ W'.cell? ⟨b, off + k * 3 + 1, none⟩ = some (.int .i64 p1) ∧ W'.cell? ⟨b, off + i * 3, none⟩ = some (.int .i64 d) ∧ W'.cell? ⟨b, off + i * 3 + 1, none⟩ = some (.int .i64 p)) [] ?_ fun AA => ?_
       ·exact BK.out
       try dsimp only at AA
       refine tk 0 53 (mf 24 1) AA ?_;refine tk 1 54 (mf 24 2) AA ?_;refine tk 2 55 (mf 24 3) AA ?_;refine tk 3 56 (mf 24 4) AA ?_;refine tk 4 57 (mf 24 5) AA ?_;refine tk 5 58 (mf 24 6) AA ?_;refine tk 6 59 (mf 24 7) AA ?_;refine tk 7 60 (mf 24 8) AA ?_;refine tk 8 61 (mf 24 9) AA ?_;refine tk 9 62 (mf 24 10) AA ?_;refine tk 10 63 (mf 24 11) AA ?_;refine tk 11 64 (mf 24 12) AA ?_;refine ts 12 65 (mf 24 13) AA ?_;refine ts 13 66 (mf 24 14) AA ?_;refine ts 14 67 (mf 24 15) AA ?_;refine ts 15 68 (mf 24 16) AA ?_;refine ts 16 69 (mf 24 17) AA ?_;refine ts 17 70 (mf 24 18) AA ?_;refine ts 18 71 (mf 24 19) AA ?_;refine ts 19 72 (mf 24 20) AA ?_;refine ts 20 73 (mf 24 21) AA ?_;refine ts 21 74 (mf 24 22) AA ?_;refine ts 22 75 (mf 24 23) AA ?_;refine tk 23 76 (mf 24 24) AA ?_;refine tK ?_;clear AA
       go_wp2_with fail
       go_roundg (i - (k + 1))
       ·exact ⟨k + 1, by go_num, by omega, rfl, BQ, GR, AZ.drew⟩
       omega
     ·obtain rfl : k = i := by omega
      have UV : decide (k < k) = false := by simp
      go_wp2_with fail
      clear UV
      go_loopg [9] k (gU w #[.slice An nn cn, .slice Ad nd cd] ls q k)
      case atStart => exact ⟨0, rfl, Nat.zero_le _, rfl, rfl, GR, AZ⟩
      case round =>
       clear GR AZ;obtain ⟨j, rfl, hj, rfl, Nc, GR, AZ⟩ := hrel;by_cases SY : j < k
       ·obtain ⟨b1, Ep, d1, p1, q1, Ew, _, Di, _, _, e2⟩ := (HS.below AZ Df).lock (i := j) (by omega);injection Ew with Ew; injection Ew with h1 h2; subst h1 h2;obtain ⟨b2, II, d2, p2, q2, Cm, _, Ca, _, _, f2⟩ := (HS.below AZ Df).lock hlt;injection Cm with Cm; injection Cm with h1 h2; subst h1 h2;rw [HX.out] at Ca;injection Ca with Ca; injection Ca with h1 h2 h3; subst h1 h2 h3;have KR := iD Di;have AE : j < n := by omega
        have BK : Hid (wr.cell? ⟨b, off + j * 3 + 2, none⟩ = some (.int .i64 q1) ∧ wr.cell? ⟨b, off + k * 3 + 2, none⟩ = some (.int .i64 q)) := ⟨e2, f2⟩;clear Di e2 f2;by_cases Gc : q1 = q
        ·subst Gc;have qd : (q1 == q1) = true := by simp
         have BQ : Hid (yq (ls.take k) q1 = true) := nU (k := j + 1) (by rw [vI KR.out Nc.out]; simp) (by omega);have CJ : Hid (xH ds ls k = 4) := by unfold Hid; rw [Fa.out, if_neg (by simp), if_neg (by rw [EJ.out]; simp), if_neg (by rw [Nh.out]; simp), if_pos BQ.out]
         have Im := iD (yt Lm CJ (by decide) n hlt);go_upto_region 22 with (fail);refine fX (fun W' => W'.cell? ⟨b, off + j * 3 + 2, none⟩ = some (.int .i64 q1) ∧ W'.cell? ⟨b, off + k * 3 + 2, none⟩ = some (.int .i64 q1)) [] ?_ fun AA => ?_
         ·exact BK.out
         try dsimp only at AA
         refine tk 0 82 (mf 11 1) AA ?_;refine tk 1 83 (mf 11 2) AA ?_;refine tk 2 84 (mf 11 3) AA ?_;refine tk 3 85 (mf 11 4) AA ?_;refine tk 4 86 (mf 11 5) AA ?_;refine tk 5 87 (mf 11 6) AA ?_;refine tk 6 88 (mf 11 7) AA ?_;refine tk 7 89 (mf 11 8) AA ?_;refine tk 8 90 (mf 11 9) AA ?_;refine tk 9 91 (mf 11 10) AA ?_;refine tk 10 92 (mf 11 11) AA ?_;refine tK ?_;clear AA
         go_wp2_with fail
         go_ret;exact ⟨zC (by rw [HR.out, Im.out]), AZ.drew⟩
        ·have qd : (q1 == q) = false := by simpa using Gc
         have BQ : Hid (yq (ls.take (j + 1)) q = false) := by unfold Hid; rw [vI KR.out Nc.out]; simpa using Gc
         clear Gc;go_upto_region 22 with (fail);refine fX (fun W' => W'.cell? ⟨b, off + j * 3 + 2, none⟩ = some (.int .i64 q1) ∧ W'.cell? ⟨b, off + k * 3 + 2, none⟩ = some (.int .i64 q)) [] ?_ fun AA => ?_
         ·exact BK.out
         try dsimp only at AA
         refine tk 0 82 (mf 11 1) AA ?_;refine tk 1 83 (mf 11 2) AA ?_;refine tk 2 84 (mf 11 3) AA ?_;refine tk 3 85 (mf 11 4) AA ?_;refine tk 4 86 (mf 11 5) AA ?_;refine tk 5 87 (mf 11 6) AA ?_;refine tk 6 88 (mf 11 7) AA ?_;refine tk 7 89 (mf 11 8) AA ?_;refine tk 8 90 (mf 11 9) AA ?_;refine tk 9 91 (mf 11 10) AA ?_;refine tk 10 92 (mf 11 11) AA ?_;refine tK ?_;clear AA
         go_wp2_with fail
         go_roundg (k - (j + 1))
         ·exact ⟨j + 1, by go_num, by omega, rfl, BQ, GR, AZ.drew⟩
         omega
       ·obtain rfl : j = k := by omega
        have KJ : decide (j < j) = false := by simp
        have CJ : Hid (xH ds ls j = 0) := by unfold Hid; rw [Fa.out, if_neg (by simp), if_neg (by rw [EJ.out]; simp), if_neg (by rw [Nh.out]; simp), if_neg (by rw [Nc.out]; simp)]
        have BI := iD (uF Lm CJ)
        go_wp2_with fail
        go_roundg (n - (j + 1))
        ·exact ⟨j + 1, by go_num, by omega, rfl, BI, GR, AZ⟩
        omega
  ·obtain rfl : i = n := by omega
   have Ck : decide (i < i) = false := by simp
   go_wp2_with fail
   go_ret;exact ⟨zC (by rw [HR.out, Lm.out]), AZ⟩
end Go.Proofs.YtddddlhgaeameaaGreatDoor
