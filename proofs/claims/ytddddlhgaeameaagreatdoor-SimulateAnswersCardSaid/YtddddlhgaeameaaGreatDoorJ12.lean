import Derived.Test.YtddddlhgaeameaaGreatDoorJ11
import Derived.Deep.DeepCutAuto
set_option maxRecDepth 100000
set_option maxHeartbeats 8000000
namespace Go.Proofs.YtddddlhgaeameaaGreatDoor
open Go.RowKit Tryz
variable {ns : List Nd} {w wr : World} {N : Array Value}
theorem vX (n : Int) (w : World) : Calls prog 47 #[.int .i64 n] w fun e w' => e = .returned (.bool (zV n)) ∧ w = w' := by
 have HJ : Hid (zV n = (decide (n = 1) || decide (n = 2) || decide (n = 3))) := by unfold Hid zV; rw [Bool.eq_iff_iff]; simp; omega
 by_cases h1 : n = 1
 ·subst h1
  go_enter func47, ntmps47
  go_wp2
  go_ret;exact ⟨zE (by rw [HJ.out]; rfl), rfl⟩
 ·have q1 : (n == 1) = false := by simpa using h1
  by_cases h2 : n = 2
  ·subst h2
   go_enter func47, ntmps47
   go_wp2
   go_ret;exact ⟨zE (by rw [HJ.out]; rfl), rfl⟩
  ·have q2 : (n == 2) = false := by simpa using h2
   by_cases h3 : n = 3
   ·subst h3
    go_enter func47, ntmps47
    go_wp2
    go_ret;exact ⟨zE (by rw [HJ.out]; rfl), rfl⟩
   ·have q3 : (n == 3) = false := by simpa using h3
    go_enter func47, ntmps47
    go_wp2
    go_ret;exact ⟨zE (by rw [HJ.out]; simp [h1, h2, h3]), rfl⟩
def Un (ns : List Nd) (i : Nat) : List (List UInt8) := ((ns.take i).map (fun x => BA x.name)).reverse
def Ud (ns : List Nd) (ds : List Dv) (j : Nat) : List (List UInt8) := ((ds.take j).map (fun x => BA x.name)).reverse ++ Un ns ns.length
theorem lM {i : Nat} {x : Nd} (hx : ns[i]? = some x) : Un ns (i + 1) = BA x.name :: Un ns i := by unfold Un; rw [zO hx]; simp
theorem pm {ds : List Dv} {j : Nat} {x : Dv} (hx : ds[j]? = some x) : Ud ns ds (j + 1) = BA x.name :: Ud ns ds j := by unfold Ud; rw [zO hx]; simp
theorem pY {i : Nat} {l : List UInt8} : l ∈ Un ns i ↔ ∃ (k : Nat) (y : Nd), k < i ∧ ns[k]? = some y ∧ BA y.name = l := by
 unfold Un;rw [List.mem_reverse, List.mem_map]
 constructor
 ·rintro ⟨y, hy, rfl⟩;obtain ⟨k, hk⟩ := List.mem_iff_getElem?.1 hy;rw [List.getElem?_take] at hk;split at hk
  ·exact ⟨k, y, by assumption, hk, rfl⟩
  ·cases hk
 ·rintro ⟨k, y, hk, hy, rfl⟩;exact ⟨y, List.mem_iff_getElem?.2 ⟨k, by rw [List.getElem?_take, if_pos hk]; exact hy⟩, rfl⟩
theorem pZ {ds : List Dv} {j : Nat} {l : List UInt8} : l ∈ Ud ns ds j ↔ (∃ (k : Nat) (y : Dv), k < j ∧ ds[k]? = some y ∧ BA y.name = l) ∨ (∃ (k : Nat) (y : Nd), k < ns.length ∧ ns[k]? = some y ∧ BA y.name = l) := by
 unfold Ud;rw [List.mem_append, pY];refine or_congr ?_ Iff.rfl;rw [List.mem_reverse, List.mem_map]
 constructor
 ·rintro ⟨y, hy, rfl⟩;obtain ⟨k, hk⟩ := List.mem_iff_getElem?.1 hy;rw [List.getElem?_take] at hk;split at hk
  ·exact ⟨k, y, by assumption, hk, rfl⟩
  ·cases hk
 ·rintro ⟨k, y, hk, hy, rfl⟩;exact ⟨y, List.mem_iff_getElem?.2 ⟨k, by rw [List.getElem?_take, if_pos hk]; exact hy⟩, rfl⟩
theorem sw : ∀ (ns : List Nd) (U : List (List UInt8)), vj U ns = ((ns.map (fun x => BA x.name)).reverse ++ U)
 | [], U => rfl
 | x :: ns, U => by rw [vj, sw ns]; simp
theorem nW {a b : ByteArray} (h : a ≠ b) : (a.toList == b.toList) = false := by
 rw [ByteArray.toList_eq, ByteArray.toList_eq];exact beq_false_of_ne (fun e => h (tD e))
structure uH (w : World) (N : Array Value) (wr : World) : Prop where
 bx : AJ wr w.heap.size 26 N
 bl : bW w wr
theorem uH.later {wr' : World} (h : uH w N wr) (hb : bW wr wr') : uH w N wr' := ⟨h.bx.below hb h.bx.lt, h.bl.trans (hb.mono h.bl.size)⟩
theorem uH.drew (h : uH w N wr) : uH w N wr.drew := h.later (Below.refl _ _).drew
theorem uH.alloc (h : uH w N wr) (o : Obj) : uH w N (wr.alloc o) := h.later ((Below.refl _ _).alloc lR _)
def fI (w : World) (N : Array Value) (nn : Nat) (ns : List Nd) (gk : Nat) (iv : Value) (wr : World) : Prop := ∃ i : Nat, iv = .int .i64 i ∧ i ≤ nn ∧ gk = nn - i ∧ Hid (uH w N wr) ∧ Hid (wo [] ns = wo (Un ns i) (ns.drop i))
def gE (w : World) (N : Array Value) (bq i : Nat) (T : TypeId) (C : Array Value) (Q : Nat → Prop) (gk : Nat) (kv : Value) (wr : World) : Prop := ∃ k : Nat, kv = .int .i64 k ∧ k ≤ i ∧ gk = i - k ∧ Hid (uH w N wr) ∧ Hid (AJ wr bq T C) ∧ Hid (Q k)
def fH (w : World) (N : Array Value) (nd : Nat) (ns : List Nd) (ds : List Dv) (gk : Nat) (iv : Value) (wr : World) : Prop := ∃ i : Nat, iv = .int .i64 i ∧ i ≤ nd ∧ gk = nd - i ∧ Hid (uH w N wr) ∧ Hid (zR ns ds = vg ns.length (Ud ns ds i) (ds.drop i))
theorem vY (An Ad : Option Addr) (nn cn nd cd Bn Bd : Nat) (ns : List Nd) (ds : List Dv) (w : World) (hn : Sl w Bn 3 An nn cn (ns.flatMap Nd.cells)) (hd : Sl w Bd 5 Ad nd cd (ds.flatMap Dv.cells)) (Ce : Bn ≤ w.heap.size) (BN : Bd ≤ w.heap.size)
 (Bj : FO ns) (Bc : GH ds) :
 Calls prog 31 #[.agg #[.slice An nn cn, .slice Ad nd cd]] w fun e w' => e = .returned (.int .i64 (zR ns ds)) ∧ bW w w' := by
 have Ch := iD (hn.len (fun _ => rfl) (by decide)); have Fx := iD (hd.len (fun _ => rfl) (by decide));obtain ⟨Ir, Nq⟩ := hn.le;obtain ⟨Vs, MO⟩ := hd.le;have HN := iD hn; have HD := iD hd; have Da := iD Bj; have CU := iD Bc;clear hn hd Bj Bc;have HC : Hid (zR ns ds = if 32 < nn then 1 else if 64 < nd then 1 else if wo [] ns = 0 then vg nn (vj [] ns) ds else wo [] ns) := by unfold Hid; rw [zR, Ch.out, Fx.out]
 by_cases h1 : 32 < nn
 ·have q1 : decide ((32 : Int) < (nn : Int)) = true := by simp; omega
  go_enter func31, ntmps31
  go_wp2_with fail
  go_ret;exact ⟨zC (by rw [HC.out, if_pos h1]), (Below.refl _ _).alloc lR _⟩
 have q1 : decide ((32 : Int) < (nn : Int)) = false := by simp; omega
 by_cases h2 : 64 < nd
 ·have q2 : decide ((64 : Int) < (nd : Int)) = true := by simp; omega
  go_enter func31, ntmps31
  go_wp2_with fail
  go_ret;exact ⟨zC (by rw [HC.out, if_neg h1, if_pos h2]), (Below.refl _ _).alloc lR _⟩
 have q2 : decide ((64 : Int) < (nd : Int)) = false := by simp; omega
 have Js : Hid (uH w #[.slice An nn cn, .slice Ad nd cd] (w.alloc (.cells #[.slice An nn cn, .slice Ad nd cd] 26))) := ⟨AJ.new _ _ _, (Below.refl _ _).alloc lR _⟩
 go_enter func31, ntmps31
 go_wp2_with fail
 clear q1 q2;generalize World.alloc _ _ = W at *
 go_loopg [3] nn (fI w #[.slice An nn cn, .slice Ad nd cd] nn ns)
 case atStart => exact ⟨0, rfl, Nat.zero_le _, rfl, Js, rfl⟩
 case round =>
  clear Js;obtain ⟨i, rfl, hi, rfl, hst, hch⟩ := hrel;obtain ⟨k0, k1⟩ := hst.bx.d2;by_cases hlt : i < nn
  ·obtain ⟨b, off, x, rfl, hb, hx, hc⟩ := (HN.below hst.bl Ce).at (fun _ => rfl) (by decide) hlt;have HX := iD hx;have Oy := Da x (List.mem_of_getElem? hx);obtain ⟨nm, cu, co⟩ := x;simp only at Oy;have c0 : wr.cell? ⟨b, off + i * 3, none⟩ = some (.string nm) := hc 0 _ rfl;have c1 : wr.cell? ⟨b, off + i * 3 + 1, none⟩ = some (.int .i64 cu) := hc 1 _ rfl;have c2 : wr.cell? ⟨b, off + i * 3 + 2, none⟩ = some (.int .i64 co) := hc 2 _ rfl;clear hc hx
   have EM : ∀ e : Int, vM (Un ns i) ⟨nm, cu, co⟩ = e → e ≠ 0 → zR ns ds = e := fun e he hne => by
    have hz : wo [] ns = e := by rw [hch.out, qo HX.out (by rw [he]; exact hne), he]
    rw [HC.out, if_neg h1, if_neg h2, hz, if_neg hne]
   have Ar := iD EM; clear EM;have CJ : Hid (vM (Un ns i) ⟨nm, cu, co⟩ = if yI (BA nm) = false then 3 else if BA nm ∈ Un ns i then 4 else if cu < 0 ∨ 1048576 < cu then 5 else if ym co = false then 5 else 0) := rfl;go_upto_region 7 with (fail);clear c0 c1 c2 k0 k1;have Au := iD (AJ.new wr 73 #[.string nm, .int .i64 cu, .int .i64 co]);have BD := iD (hst.alloc (.cells #[.string nm, .int .i64 cu, .int .i64 co] 73));generalize World.alloc _ _ = w1 at *;obtain ⟨bq, Fb⟩ := eX wr.heap.size;rw [← Fb] at Au ⊢;clear Fb hst;have e0 := Au.c0;have OZ := iD (te nm w1 Oy);rcases Ef : yI (BA nm) with _ | _
   ·rw [Ef] at OZ CJ;clear Ef
    go_wp2_with fail
    refine OZ.mono ?_;rintro e w2 ⟨rfl, rfl⟩;have HR := iD (Ar 3 (by rw [CJ.out]; simp) (by decide))
    go_wp2_with fail
    go_ret;exact ⟨zC (by rw [HR.out]), BD.bl⟩
   ·have Gg := iD Ef;rw [Ef] at OZ;clear Ef
    go_wp2_with fail
    refine OZ.mono ?_;rintro e w2 ⟨rfl, rfl⟩
    go_wp2_with fail
    clear e0
    go_loopg [5] i (gE w #[.slice (some ⟨b, off, none⟩) nn cn, .slice Ad nd cd] bq i 73 #[.string nm, .int .i64 cu, .int .i64 co] (fun k => ∀ (j : Nat) (y : Nd), j < k → ns[j]? = some y → BA y.name ≠ BA nm))
    case atStart => exact ⟨0, rfl, Nat.zero_le _, rfl, BD, Au, fun j y hj => absurd hj (by omega)⟩
    case round =>
     clear BD Au OZ;obtain ⟨k, rfl, hk, rfl, hs, IP, hq⟩ := hrel;by_cases MN : k < i
     ·obtain ⟨b2, II, y, Cm, AQ, hy, Ms⟩ := (HN.below hs.bl Ce).at (k := k) (fun _ => rfl) (by decide) (by omega);injection Cm with Cm;injection Cm with h3 h4;subst h3 h4;have HY := iD hy;have d0 : wr.cell? ⟨b, off + k * 3, none⟩ = some (.string y.name) := Ms 0 _ rfl;clear Ms hy;have e0 := IP.c0;have k0 := hs.bx.c0;have IM : k < nn := by omega
      go_upto_region 12 with (fail);refine fX (fun W' => W'.cell? ⟨b, off + k * 3, none⟩ = some (.string y.name) ∧ W'.cell? ⟨bq, 0, none⟩ = some (.string nm) ∧ W'.cell? ⟨w.heap.size, 0, none⟩ = some (.slice (some ⟨b, off, none⟩) nn cn)) [] ?_ fun AA => ?_
      ·exact ⟨d0, e0, k0⟩
      try dsimp only at AA
      refine tj 0 41 AA ?_;refine tj 1 42 AA ?_;refine tj 2 43 AA ?_;refine tj 3 44 AA ?_;refine tj 4 45 AA ?_;refine tj 5 46 AA ?_;refine tj 6 47 AA ?_;refine tj 7 48 AA ?_;refine tj 8 49 AA ?_;refine tK ?_;clear AA d0 e0 k0;by_cases he : y.name = nm
      ·subst he;rw [show (y.name.toList == y.name.toList) = true from by simp];have HM : Hid (BA y.name ∈ Un ns i) := pY.2 ⟨k, y, MN, HY, rfl⟩;have HR := iD (Ar 4 (by rw [CJ.out, if_neg (by rw [Gg.out]; simp), if_pos HM.out]) (by decide))
       go_wp2_with fail
       go_ret;exact ⟨zC (by rw [HR.out]), hs.bl.drew⟩
      ·rw [nW he]
       have HQ : Hid (∀ (j : Nat) (z : Nd), j < k + 1 → ns[j]? = some z → BA z.name ≠ BA nm) := by
        intro j z hj hz;rcases Nat.lt_succ_iff_lt_or_eq.1 hj with h | rfl
        ·exact hq j z h hz
        ·rw [HY.out] at hz;injection hz with hz;subst hz;exact fun h => he (tD h)
       clear he
       go_wp2_with fail
       go_roundg (i - (k + 1))
       ·exact ⟨k + 1, by go_num, by omega, rfl, hs.drew, IP, HQ⟩
       omega
     ·obtain rfl : k = i := by omega
      have UV : decide (k < k) = false := by simp
      have HM : Hid (¬ BA nm ∈ Un ns k) := fun hm => by
       obtain ⟨j, y, hj, hy, he⟩ := pY.1 hm;exact hq j y hj hy he
      have e1 := IP.c1;have e2 := IP.c2;have Dn : Hid (vM (Un ns k) ⟨nm, cu, co⟩ = if cu < 0 ∨ 1048576 < cu then 5 else if ym co = false then 5 else 0) := by unfold Hid; rw [CJ.out, if_neg (by rw [Gg.out]; simp), if_neg HM.out]
      by_cases g1 : cu < 0
      ·skip
       have HR := iD (Ar 5 (by rw [Dn.out, if_pos (.inl g1)]) (by decide))
       go_wp2_with fail
       go_ret;exact ⟨zC (by rw [HR.out]), hs.bl⟩
      have p1 : decide (cu < 0) = false := by simpa using g1
      by_cases g2 : 1048576 < cu
      ·skip
       have HR := iD (Ar 5 (by rw [Dn.out, if_pos (.inr g2)]) (by decide))
       go_wp2_with fail
       go_ret;exact ⟨zC (by rw [HR.out]), hs.bl⟩
      have p2 : decide (1048576 < cu) = false := by simpa using g2
      by_cases g3 : co < 0
      ·skip
       have HR := iD (Ar 5 (by rw [Dn.out, if_neg (by omega), if_pos (by simp [ym]; omega)]) (by decide))
       go_wp2_with fail
       go_ret;exact ⟨zC (by rw [HR.out]), hs.bl⟩
      have p3 : decide (co < 0) = false := by simpa using g3
      by_cases g4 : 7 < co
      ·skip
       have HR := iD (Ar 5 (by rw [Dn.out, if_neg (by omega), if_pos (by simp [ym]; omega)]) (by decide))
       go_wp2_with fail
       go_ret;exact ⟨zC (by rw [HR.out]), hs.bl⟩
      have p4 : decide (7 < co) = false := by simpa using g4
      have IB : Hid (wo [] ns = wo (Un ns (k + 1)) (ns.drop (k + 1))) := by
       unfold Hid;rw [hch.out, (tw HX.out (by rw [Dn.out, if_neg (by omega), if_neg (by simp [ym]; omega)])).1, lM HX.out]
      go_wp2_with fail
      go_roundg (nn - (k + 1))
      ·exact ⟨k + 1, by go_num, by omega, rfl, hs, IB⟩
      omega
  ·obtain rfl : i = nn := by omega
   have Ck : decide (i < i) = false := by simp
   have AE : Hid (zR ns ds = vg ns.length (Ud ns ds 0) (ds.drop 0)) := by
    have h0 : wo [] ns = 0 := by rw [hch.out, List.drop_eq_nil_of_le (by rw [Ch.out]; exact Nat.le_refl _)]; rfl
    unfold Hid;rw [HC.out, if_neg h1, if_neg h2, if_pos h0, sw, Ch.out];simp [Ud, Un]
   clear hch
   go_wp2_with fail
   go_loopg [6] nd (fH w #[.slice An i cn, .slice Ad nd cd] nd ns ds)
   case atStart => exact ⟨0, rfl, Nat.zero_le _, rfl, hst, AE⟩
   case round =>
    clear AE hst k0 k1 Ck;obtain ⟨j, rfl, hj, rfl, hst, hch⟩ := hrel;obtain ⟨k0, k1⟩ := hst.bx.d2;by_cases PM : j < nd; rotate_left
    ·obtain rfl : j = nd := by omega
     have KJ : decide (j < j) = false := by simp
     have HR : Hid (zR ns ds = 0) := by unfold Hid; rw [hch.out, List.drop_eq_nil_of_le (by rw [Fx.out]; exact Nat.le_refl _)]; rfl
     go_wp2_with fail
     go_ret;exact ⟨zC (by rw [HR.out]), hst.bl⟩
    obtain ⟨b, off, x, rfl, hb, hx, hc⟩ := (HD.below hst.bl BN).at (fun _ => rfl) (by decide) PM;have HX := iD hx;have Oy := CU x (List.mem_of_getElem? hx);obtain ⟨nm, kd, xa, xb, co⟩ := x;simp only at Oy;have c0 : wr.cell? ⟨b, off + j * 5, none⟩ = some (.string nm) := hc 0 _ rfl;have c1 : wr.cell? ⟨b, off + j * 5 + 1, none⟩ = some (.int .i64 kd) := hc 1 _ rfl;have c2 : wr.cell? ⟨b, off + j * 5 + 2, none⟩ = some (.int .i64 xa) := hc 2 _ rfl;have c3 : wr.cell? ⟨b, off + j * 5 + 3, none⟩ = some (.int .i64 xb) := hc 3 _ rfl;have c4 : wr.cell? ⟨b, off + j * 5 + 4, none⟩ = some (.int .i64 co) := hc 4 _ rfl;clear hc hx
    have EM : ∀ e : Int, xk ns.length (Ud ns ds j) ⟨nm, kd, xa, xb, co⟩ = e → e ≠ 0 → zR ns ds = e := fun e he hne => by
     rw [hch.out, qt HX.out (by rw [he]; exact hne), he]
    have Ar := iD EM; clear EM;have CJ : Hid (xk ns.length (Ud ns ds j) ⟨nm, kd, xa, xb, co⟩ = if yI (BA nm) = false then 3 else if BA nm ∈ Ud ns ds j then 4 else if kd < 1 ∨ 6 < kd then 6 else if xW kd xa xb i = false then 7 else if ym co = false then 5 else 0) := by unfold Hid xk; rw [Ch.out]
    go_upto_region 20 with (fail);clear c0 c1 c2 c3 c4 k0 k1;have Au := iD (AJ.new wr 75 #[.string nm, .int .i64 kd, .int .i64 xa, .int .i64 xb, .int .i64 co]);have BD := iD (hst.alloc (.cells #[.string nm, .int .i64 kd, .int .i64 xa, .int .i64 xb, .int .i64 co] 75));generalize World.alloc _ _ = w1 at *;obtain ⟨bq, Fb⟩ := eX wr.heap.size;rw [← Fb] at Au ⊢;clear Fb hst;have e0 := Au.c0;have OZ := iD (te nm w1 Oy);rcases Ef : yI (BA nm) with _ | _
    ·rw [Ef] at OZ CJ;clear Ef
     go_wp2_with fail
     refine OZ.mono ?_;rintro e w2 ⟨rfl, rfl⟩;have HR := iD (Ar 3 (by rw [CJ.out]; simp) (by decide))
     go_wp2_with fail
     go_ret;exact ⟨zC (by rw [HR.out]), BD.bl⟩
    have Gg := iD Ef;rw [Ef] at OZ;clear Ef
    go_wp2_with fail
    refine OZ.mono ?_;rintro e w2 ⟨rfl, rfl⟩
    go_wp2_with fail
    clear e0
    go_loopg [8] i (gE w #[.slice An i cn, .slice (some ⟨b, off, none⟩) nd cd] bq i 75 #[.string nm, .int .i64 kd, .int .i64 xa, .int .i64 xb, .int .i64 co] (fun k => ∀ (t : Nat) (y : Nd), t < k → ns[t]? = some y → BA y.name ≠ BA nm))
    case atStart => exact ⟨0, rfl, Nat.zero_le _, rfl, BD, Au, fun t y ht => absurd ht (by omega)⟩
    case round =>
     clear BD Au OZ;obtain ⟨k, rfl, hk, rfl, hs, IP, hq⟩ := hrel;have k0 := hs.bx.c0;by_cases MN : k < i
     ·obtain ⟨b2, II, y, rfl, AQ, hy, Ms⟩ := (HN.below hs.bl Ce).at (k := k) (fun _ => rfl) (by decide) MN;have HY := iD hy;have d0 : wr.cell? ⟨b2, II + k * 3, none⟩ = some (.string y.name) := Ms 0 _ rfl;clear Ms hy;have e0 := IP.c0;go_upto_region 25 with (fail);refine fX (fun W' => W'.cell? ⟨b2, II + k * 3, none⟩ = some (.string y.name) ∧ W'.cell? ⟨bq, 0, none⟩ = some (.string nm) ∧ W'.cell? ⟨w.heap.size, 0, none⟩ = some (.slice (some ⟨b2, II, none⟩) i cn)) [] ?_ fun AA => ?_
      ·exact ⟨d0, e0, k0⟩
      try dsimp only at AA
      refine tj 0 91 AA ?_;refine tj 1 92 AA ?_;refine tj 2 93 AA ?_;refine tj 3 94 AA ?_;refine tj 4 95 AA ?_;refine tj 5 96 AA ?_;refine tj 6 97 AA ?_;refine tj 7 98 AA ?_;refine tj 8 99 AA ?_;refine tK ?_;clear AA d0 e0 k0;by_cases he : y.name = nm
      ·subst he;rw [show (y.name.toList == y.name.toList) = true from by simp];have HM : Hid (BA y.name ∈ Ud ns ds j) := pZ.2 (.inr ⟨k, y, by rw [Ch.out]; exact MN, HY, rfl⟩);have HR := iD (Ar 4 (by rw [CJ.out, if_neg (by rw [Gg.out]; simp), if_pos HM.out]) (by decide))
       go_wp2_with fail
       go_ret;exact ⟨zC (by rw [HR.out]), hs.bl.drew⟩
      ·rw [nW he]
       have HQ : Hid (∀ (t : Nat) (z : Nd), t < k + 1 → ns[t]? = some z → BA z.name ≠ BA nm) := by
        intro t z ht hz;rcases Nat.lt_succ_iff_lt_or_eq.1 ht with h | rfl
        ·exact hq t z h hz
        ·rw [HY.out] at hz;injection hz with hz;subst hz;exact fun h => he (tD h)
       clear he
       go_wp2_with fail
       go_roundg (i - (k + 1))
       ·exact ⟨k + 1, by go_num, by omega, rfl, hs.drew, IP, HQ⟩
       omega
     ·obtain rfl : k = i := by omega
      have UV : decide (k < k) = false := by simp
      go_wp2_with fail
      clear UV;have RZ := iD hq.out;clear k0
      go_loopg [9] j (gE w #[.slice An k cn, .slice (some ⟨b, off, none⟩) nd cd] bq j 75 #[.string nm, .int .i64 kd, .int .i64 xa, .int .i64 xb, .int .i64 co] (fun k => ∀ (t : Nat) (y : Dv), t < k → ds[t]? = some y → BA y.name ≠ BA nm))
      case atStart => exact ⟨0, rfl, Nat.zero_le _, rfl, hs, IP, fun t y ht => absurd ht (by omega)⟩
      case round =>
       clear hs IP hq;obtain ⟨t, rfl, ht, rfl, hs, IP, hq⟩ := hrel;have k0 := hs.bx.c0;by_cases AB : t < j
       ·obtain ⟨b2, II, y, Cm, AQ, hy, Ms⟩ := (HD.below hs.bl BN).at (k := t) (fun _ => rfl) (by decide) (by omega);injection Cm with Cm;injection Cm with h3 h4;subst h3 h4;have HY := iD hy;have d0 : wr.cell? ⟨b, off + t * 5, none⟩ = some (.string y.name) := Ms 0 _ rfl;clear Ms hy;have e0 := IP.c0;have k1 := hs.bx.c1;have AH : t < nd := by omega
        go_upto_region 30 with (fail);refine fX (fun W' => W'.cell? ⟨b, off + t * 5, none⟩ = some (.string y.name) ∧ W'.cell? ⟨bq, 0, none⟩ = some (.string nm) ∧ W'.cell? ⟨w.heap.size, 1, none⟩ = some (.slice (some ⟨b, off, none⟩) nd cd)) [] ?_ fun AA => ?_
        ·exact ⟨d0, e0, k1⟩
        try dsimp only at AA
        refine tj 0 105 AA ?_;refine tj 1 106 AA ?_;refine tj 2 107 AA ?_;refine tj 3 108 AA ?_;refine tj 4 109 AA ?_;refine tj 5 110 AA ?_;refine tj 6 111 AA ?_;refine tj 7 112 AA ?_;refine tj 8 113 AA ?_;refine tK ?_;clear AA d0 e0 k0 k1;by_cases he : y.name = nm
        ·subst he;rw [show (y.name.toList == y.name.toList) = true from by simp];have HM : Hid (BA y.name ∈ Ud ns ds j) := pZ.2 (.inl ⟨t, y, AB, HY, rfl⟩);have HR := iD (Ar 4 (by rw [CJ.out, if_neg (by rw [Gg.out]; simp), if_pos HM.out]) (by decide))
         go_wp2_with fail
         go_ret;exact ⟨zC (by rw [HR.out]), hs.bl.drew⟩
        ·rw [nW he]
         have HQ : Hid (∀ (r : Nat) (z : Dv), r < t + 1 → ds[r]? = some z → BA z.name ≠ BA nm) := by
          intro r z hr hz;rcases Nat.lt_succ_iff_lt_or_eq.1 hr with h | rfl
          ·exact hq r z h hz
          ·rw [HY.out] at hz;injection hz with hz;subst hz;exact fun h => he (tD h)
         clear he
         go_wp2_with fail
         go_roundg (j - (t + 1))
         ·exact ⟨t + 1, by go_num, by omega, rfl, hs.drew, IP, HQ⟩
         omega
       ·obtain rfl : t = j := by omega
        have AG : decide (t < t) = false := by simp
        have HM : Hid (¬ BA nm ∈ Ud ns ds t) := fun hm => by
         rcases pZ.1 hm with ⟨r, y, hr, hy, he⟩ | ⟨r, y, hr, hy, he⟩
         ·exact hq r y hr hy he
         ·exact RZ r y (by rw [Ch.out] at hr; exact hr) hy he
        have e1 := IP.c1;have e2 := IP.c2;have e3 := IP.c3;have e4 := IP.c4;have Dn : Hid (xk ns.length (Ud ns ds t) ⟨nm, kd, xa, xb, co⟩ = if kd < 1 ∨ 6 < kd then 6 else if xW kd xa xb k = false then 7 else if ym co = false then 5 else 0) := by unfold Hid; rw [CJ.out, if_neg (by rw [Gg.out]; simp), if_neg HM.out]
        by_cases g1 : kd < 1
        ·skip
         have HR := iD (Ar 6 (by rw [Dn.out, if_pos (.inl g1)]) (by decide))
         go_wp2_with fail
         go_ret;exact ⟨zC (by rw [HR.out]), hs.bl⟩
        have p1 : decide (kd < 1) = false := by simpa using g1
        by_cases g2 : 6 < kd
        ·skip
         have HR := iD (Ar 6 (by rw [Dn.out, if_pos (.inr g2)]) (by decide))
         go_wp2_with fail
         go_ret;exact ⟨zC (by rw [HR.out]), hs.bl⟩
        have p2 : decide (6 < kd) = false := by simpa using g2
        have KA : Hid (xk ns.length (Ud ns ds t) ⟨nm, kd, xa, xb, co⟩ = if xW kd xa xb k = false then 7 else if ym co = false then 5 else 0) := by unfold Hid; rw [Dn.out, if_neg (by omega)]
        have Jz : Hid (xW kd xa xb k = if xa < 0 then false else if (k : Int) ≤ xa then false else if zV kd = false then decide (xb = -1) else decide (0 ≤ xb) && decide (xb < k) && !decide (xb = xa)) := rfl;by_cases g3 : xa < 0
        ·skip
         have HR := iD (Ar 7 (by rw [KA.out, if_pos (by rw [Jz.out, if_pos g3])]) (by decide))
         go_wp2_with fail
         go_ret;exact ⟨zC (by rw [HR.out]), hs.bl⟩
        have p3 : decide (xa < 0) = false := by simpa using g3
        by_cases g4 : (k : Int) ≤ xa
        ·skip
         have HR := iD (Ar 7 (by rw [KA.out, if_pos (by rw [Jz.out, if_neg g3, if_pos g4])]) (by decide))
         go_wp2_with fail
         go_ret;exact ⟨zC (by rw [HR.out]), hs.bl⟩
        have p4 : decide ((k : Int) ≤ xa) = false := by simpa using g4
        have Oj : Hid (xW kd xa xb k = if zV kd = false then decide (xb = -1) else decide (0 ≤ xb) && decide (xb < k) && !decide (xb = xa)) := by unfold Hid; rw [Jz.out, if_neg g3, if_neg g4]
        have Cw := iD (vX kd);rcases Fq : zV kd with _ | _
        ·have Ia : Hid (xW kd xa xb k = decide (xb = -1)) := by unfold Hid; rw [Oj.out, if_pos Fq]
         rw [Fq] at Cw;clear Fq;by_cases g5 : xb = -1; rotate_left
         ·have p5 : (xb != -1) = true := by simpa using g5
          go_wp2_with fail
          refine (Cw _).mono ?_;rintro e w2 ⟨rfl, rfl⟩
          go_wp2_with fail
          refine (Cw _).mono ?_;rintro e w2 ⟨rfl, rfl⟩;have HR := iD (Ar 7 (by rw [KA.out, if_pos (by rw [Ia.out, decide_eq_false g5])]) (by decide))
          go_wp2_with fail
          go_ret;exact ⟨zC (by rw [HR.out]), hs.bl⟩
         have p5 : (xb != -1) = false := by simpa using g5
         have Tk : Hid (xk ns.length (Ud ns ds t) ⟨nm, kd, xa, xb, co⟩ = if ym co = false then 5 else 0) := by unfold Hid; rw [KA.out, if_neg (by rw [Ia.out, decide_eq_true g5]; simp)]
         clear Dn KA Jz Oj Ia g5
         go_wp2_with fail
         refine (Cw _).mono ?_;rintro e w2 ⟨rfl, rfl⟩
         go_wp2_with fail
         refine (Cw _).mono ?_;rintro e w2 ⟨rfl, rfl⟩;by_cases g8 : co < 0
         ·skip
          have HR := iD (Ar 5 (by rw [Tk.out, if_pos (by simp [ym]; omega)]) (by decide))
          go_wp2_with fail
          go_ret;exact ⟨zC (by rw [HR.out]), hs.bl⟩
         have p8 : decide (co < 0) = false := by simpa using g8
         by_cases g9 : 7 < co
         ·skip
          have HR := iD (Ar 5 (by rw [Tk.out, if_pos (by simp [ym]; omega)]) (by decide))
          go_wp2_with fail
          go_ret;exact ⟨zC (by rw [HR.out]), hs.bl⟩
         have p9 : decide (7 < co) = false := by simpa using g9
         have IB : Hid (zR ns ds = vg ns.length (Ud ns ds (t + 1)) (ds.drop (t + 1))) := by
          unfold Hid;rw [hch.out, uT HX.out (by rw [Tk.out, if_neg (by simp [ym]; omega)]), pm HX.out]
         go_wp2_with fail
         go_roundg (nd - (t + 1))
         ·exact ⟨t + 1, by go_num, by omega, rfl, hs, IB⟩
         omega
        ·have Ia : Hid (xW kd xa xb k = (decide (0 ≤ xb) && decide (xb < k) && !decide (xb = xa))) := by unfold Hid; rw [Oj.out, if_neg (by rw [Fq]; simp)]
         rw [Fq] at Cw;clear Fq;by_cases g5 : xb < 0
         ·go_wp2_with fail
          refine (Cw _).mono ?_;rintro e w2 ⟨rfl, rfl⟩;have HR := iD (Ar 7 (by rw [KA.out, if_pos (by rw [Ia.out, decide_eq_false (show ¬ 0 ≤ xb by omega)]; rfl)]) (by decide))
          go_wp2_with fail
          go_ret;exact ⟨zC (by rw [HR.out]), hs.bl⟩
         have p5 : decide (xb < 0) = false := by simpa using g5
         by_cases g6 : (k : Int) ≤ xb
         ·go_wp2_with fail
          refine (Cw _).mono ?_;rintro e w2 ⟨rfl, rfl⟩;have HR := iD (Ar 7 (by rw [KA.out, if_pos (by rw [Ia.out, decide_eq_false (show ¬ xb < k by omega)]; simp)]) (by decide))
          go_wp2_with fail
          go_ret;exact ⟨zC (by rw [HR.out]), hs.bl⟩
         have p6 : decide ((k : Int) ≤ xb) = false := by simpa using g6
         by_cases g7 : xb = xa
         ·have p7 : (xb == xa) = true := by simpa using g7
          have Il := iD (Ar 7 (by rw [KA.out, if_pos (by rw [Ia.out, decide_eq_true g7]; simp)]) (by decide));clear g7 Jz Oj Ia Dn KA
          go_wp2_with fail
          refine (Cw _).mono ?_;rintro e w2 ⟨rfl, rfl⟩
          go_wp2_with fail
          go_ret;exact ⟨zC (by rw [Il.out]), hs.bl⟩
         have p7 : (xb == xa) = false := by simpa using g7
         have Tk : Hid (xk ns.length (Ud ns ds t) ⟨nm, kd, xa, xb, co⟩ = if ym co = false then 5 else 0) := by unfold Hid; rw [KA.out, if_neg (by rw [Ia.out, decide_eq_true (show 0 ≤ xb by omega), decide_eq_true (show xb < k by omega), decide_eq_false g7]; simp)]
         clear Dn KA Jz Oj Ia g7
         go_wp2_with fail
         refine (Cw _).mono ?_;rintro e w2 ⟨rfl, rfl⟩
         go_wp2_with fail
         refine (Cw _).mono ?_;rintro e w2 ⟨rfl, rfl⟩;by_cases g8 : co < 0
         ·skip
          have HR := iD (Ar 5 (by rw [Tk.out, if_pos (by simp [ym]; omega)]) (by decide))
          go_wp2_with fail
          go_ret;exact ⟨zC (by rw [HR.out]), hs.bl⟩
         have p8 : decide (co < 0) = false := by simpa using g8
         by_cases g9 : 7 < co
         ·skip
          have HR := iD (Ar 5 (by rw [Tk.out, if_pos (by simp [ym]; omega)]) (by decide))
          go_wp2_with fail
          go_ret;exact ⟨zC (by rw [HR.out]), hs.bl⟩
         have p9 : decide (7 < co) = false := by simpa using g9
         have IB : Hid (zR ns ds = vg ns.length (Ud ns ds (t + 1)) (ds.drop (t + 1))) := by
          unfold Hid;rw [hch.out, uT HX.out (by rw [Tk.out, if_neg (by simp [ym]; omega)]), pm HX.out]
         go_wp2_with fail
         go_roundg (nd - (t + 1))
         ·exact ⟨t + 1, by go_num, by omega, rfl, hs, IB⟩
         omega
end Go.Proofs.YtddddlhgaeameaaGreatDoor
