import Derived.Test.YtkkobemhbicjgaaGreatDoorB10
import Derived.Deep.DeepCutAuto
import Derived.Deep.RegionLaw
import Derived.Deep.RegionWith
import Derived.Deep.DrawnRows
set_option maxRecDepth 100000
set_option maxHeartbeats 8000000
namespace Go.Proofs.YtkkobemhbicjgaaGreatDoor
open Go.RowKit Tryz
variable {ns : List Nd} {w wr : World} {N : Array Value}
theorem vg (n : Int) (w : World) : Calls prog 56 #[.int .i64 n] w fun e w' => e = .returned (.bool (zV n)) ∧ w = w' := by
 have HJ : Hid (zV n = (decide (n = 1) || decide (n = 2) || decide (n = 3))) := by unfold Hid zV; rw [Bool.eq_iff_iff]; simp; omega
 by_cases h1 : n = 1
 ·subst h1
  go_enter func56, ntmps56
  go_wp2
  go_ret;exact ⟨zF (by rw [HJ.out]; rfl), rfl⟩
 ·have q1 : (n == 1) = false := by simpa using h1
  by_cases h2 : n = 2
  ·subst h2
   go_enter func56, ntmps56
   go_wp2
   go_ret;exact ⟨zF (by rw [HJ.out]; rfl), rfl⟩
  ·have q2 : (n == 2) = false := by simpa using h2
   by_cases h3 : n = 3
   ·subst h3
    go_enter func56, ntmps56
    go_wp2
    go_ret;exact ⟨zF (by rw [HJ.out]; rfl), rfl⟩
   ·have q3 : (n == 3) = false := by simpa using h3
    go_enter func56, ntmps56
    go_wp2
    go_ret;exact ⟨zF (by rw [HJ.out]; simp [h1, h2, h3]), rfl⟩
def Un (ns : List Nd) (i : Nat) : List (List UInt8) := ((ns.take i).map (fun x => BA x.name)).reverse
def Ud (ns : List Nd) (ds : List Dv) (j : Nat) : List (List UInt8) := ((ds.take j).map (fun x => BA x.name)).reverse ++ Un ns ns.length
theorem kT {i : Nat} {x : Nd} (hx : ns[i]? = some x) : Un ns (i + 1) = BA x.name :: Un ns i := by unfold Un; rw [zP hx]; simp
theorem oQ {ds : List Dv} {j : Nat} {x : Dv} (hx : ds[j]? = some x) : Ud ns ds (j + 1) = BA x.name :: Ud ns ds j := by unfold Ud; rw [zP hx]; simp
theorem oA {i : Nat} {l : List UInt8} : l ∈ Un ns i ↔ ∃ (k : Nat) (y : Nd), k < i ∧ ns[k]? = some y ∧ BA y.name = l := by
 unfold Un;rw [List.mem_reverse, List.mem_map]
 constructor
 ·rintro ⟨y, hy, rfl⟩;obtain ⟨k, hk⟩ := List.mem_iff_getElem?.1 hy;rw [List.getElem?_take] at hk;split at hk
  ·exact ⟨k, y, by assumption, hk, rfl⟩
  ·cases hk
 ·rintro ⟨k, y, hk, hy, rfl⟩;exact ⟨y, List.mem_iff_getElem?.2 ⟨k, by rw [List.getElem?_take, if_pos hk]; exact hy⟩, rfl⟩
theorem oB {ds : List Dv} {j : Nat} {l : List UInt8} : l ∈ Ud ns ds j ↔ (∃ (k : Nat) (y : Dv), k < j ∧ ds[k]? = some y ∧ BA y.name = l) ∨ (∃ (k : Nat) (y : Nd), k < ns.length ∧ ns[k]? = some y ∧ BA y.name = l) := by
 unfold Ud;rw [List.mem_append, oA];refine or_congr ?_ Iff.rfl;rw [List.mem_reverse, List.mem_map]
 constructor
 ·rintro ⟨y, hy, rfl⟩;obtain ⟨k, hk⟩ := List.mem_iff_getElem?.1 hy;rw [List.getElem?_take] at hk;split at hk
  ·exact ⟨k, y, by assumption, hk, rfl⟩
  ·cases hk
 ·rintro ⟨k, y, hk, hy, rfl⟩;exact ⟨y, List.mem_iff_getElem?.2 ⟨k, by rw [List.getElem?_take, if_pos hk]; exact hy⟩, rfl⟩
theorem rP : ∀ (ns : List Nd) (U : List (List UInt8)), vr U ns = ((ns.map (fun x => BA x.name)).reverse ++ U)
 | [], U => rfl
 | x :: ns, U => by rw [vr, rP ns]; simp
theorem mX {a b : ByteArray} (h : a ≠ b) : (a.toList == b.toList) = false := by
 rw [ByteArray.toList_eq, ByteArray.toList_eq];exact beq_false_of_ne (fun e => h (tI e))
structure uJ (w : World) (N : Array Value) (wr : World) : Prop where
 bx : AJ wr w.heap.size 30 N
 bl : bW w wr
theorem uJ.later {wr' : World} (h : uJ w N wr) (hb : bW wr wr') : uJ w N wr' := ⟨h.bx.below hb h.bx.lt, h.bl.trans (hb.mono h.bl.size)⟩
theorem uJ.drew (h : uJ w N wr) : uJ w N wr.drew := h.later (Below.refl _ _).drew
theorem uJ.alloc (h : uJ w N wr) (o : Obj) : uJ w N (wr.alloc o) := h.later ((Below.refl _ _).alloc lR _)
def de (w : World) (N : Array Value) (nn : Nat) (ns : List Nd) (gk : Nat) (iv : Value) (wr : World) : Prop := ∃ i : Nat, iv = .int .i64 i ∧ i ≤ nn ∧ gk = nn - i ∧ Hid (uJ w N wr) ∧ Hid (vC [] ns = vC (Un ns i) (ns.drop i))
def eK (w : World) (N : Array Value) (bq i : Nat) (T : TypeId) (C : Array Value) (Q : Nat → Prop) (gk : Nat) (kv : Value) (wr : World) : Prop := ∃ k : Nat, kv = .int .i64 k ∧ k ≤ i ∧ gk = i - k ∧ Hid (uJ w N wr) ∧ Hid (AJ wr bq T C) ∧ Hid (Q k)
def dd (w : World) (N : Array Value) (nd : Nat) (ns : List Nd) (ds : List Dv) (gk : Nat) (iv : Value) (wr : World) : Prop := ∃ i : Nat, iv = .int .i64 i ∧ i ≤ nd ∧ gk = nd - i ∧ Hid (uJ w N wr) ∧ Hid (zR ns ds = vm ns.length (Ud ns ds i) (ds.drop i))
theorem rX (An Ad : Option Addr) (nn cn nd cd Bn Bd : Nat) (ns : List Nd) (ds : List Dv) (w : World) (hn : Sl w Bn 3 An nn cn (ns.flatMap Nd.cells)) (hd : Sl w Bd 5 Ad nd cd (ds.flatMap Dv.cells)) (CS : Bn ≤ w.heap.size) (BP : Bd ≤ w.heap.size)
 (Bg : FP ns) (BU : Fv ds) :
 Calls prog 51 #[.agg #[.slice An nn cn, .slice Ad nd cd]] w fun e w' => e = .returned (.int .i64 (zR ns ds)) ∧ bW w w' := by
 have Cb := iD (hn.len (fun _ => rfl) (by decide)); have FL := iD (hd.len (fun _ => rfl) (by decide));obtain ⟨Ip, LM⟩ := hn.le;obtain ⟨TY, JU⟩ := hd.le;have HN := iD hn; have HD := iD hd; have Ej := iD Bg; have Ce := iD BU;clear hn hd Bg BU;have HC : Hid (zR ns ds = if 32 < nn then 1 else if 64 < nd then 1 else if vC [] ns = 0 then vm nn (vr [] ns) ds else vC [] ns) := by unfold Hid; rw [zR, Cb.out, FL.out]
 by_cases h1 : 32 < nn
 ·have q1 : decide ((32 : Int) < (nn : Int)) = true := by simp; omega
  go_enter func51, ntmps51
  go_wp2_with fail
  go_ret;exact ⟨zC (by rw [HC.out, if_pos h1]), (Below.refl _ _).alloc lR _⟩
 have q1 : decide ((32 : Int) < (nn : Int)) = false := by simp; omega
 by_cases h2 : 64 < nd
 ·have q2 : decide ((64 : Int) < (nd : Int)) = true := by simp; omega
  go_enter func51, ntmps51
  go_wp2_with fail
  go_ret;exact ⟨zC (by rw [HC.out, if_neg h1, if_pos h2]), (Below.refl _ _).alloc lR _⟩
 have q2 : decide ((64 : Int) < (nd : Int)) = false := by simp; omega
 have Gq : Hid (uJ w #[.slice An nn cn, .slice Ad nd cd] (w.alloc (.cells #[.slice An nn cn, .slice Ad nd cd] 30))) := ⟨AJ.new _ _ _, (Below.refl _ _).alloc lR _⟩
 go_enter func51, ntmps51
 go_wp2_with fail
 clear q1 q2;generalize World.alloc _ _ = W at *
 go_loopg [3] nn (de w #[.slice An nn cn, .slice Ad nd cd] nn ns)
 case atStart => exact ⟨0, rfl, Nat.zero_le _, rfl, Gq, rfl⟩
 case round =>
  clear Gq;obtain ⟨i, rfl, hi, rfl, hst, hch⟩ := hrel;obtain ⟨k0, k1⟩ := hst.bx.d2;by_cases hlt : i < nn
  ·obtain ⟨b, off, x, rfl, hb, hx, hc⟩ := (HN.below hst.bl CS).at (fun _ => rfl) (by decide) hlt;have HX := iD hx;have Nk := Ej x (List.mem_of_getElem? hx);obtain ⟨nm, cu, co⟩ := x;simp only at Nk;have c0 : wr.cell? ⟨b, off + i * 3, none⟩ = some (.string nm) := hc 0 _ rfl;have c1 : wr.cell? ⟨b, off + i * 3 + 1, none⟩ = some (.int .i64 cu) := hc 1 _ rfl;have c2 : wr.cell? ⟨b, off + i * 3 + 2, none⟩ = some (.int .i64 co) := hc 2 _ rfl;clear hc hx
   have ED : ∀ e : Int, vS (Un ns i) ⟨nm, cu, co⟩ = e → e ≠ 0 → zR ns ds = e := fun e he hne => by
    have hz : vC [] ns = e := by rw [hch.out, pQ HX.out (by rw [he]; exact hne), he]
    rw [HC.out, if_neg h1, if_neg h2, hz, if_neg hne]
   have BG := iD ED; clear ED;have Cu : Hid (vS (Un ns i) ⟨nm, cu, co⟩ = if yO (BA nm) = false then 3 else if BA nm ∈ Un ns i then 4 else if cu < 0 ∨ 1048576 < cu then 5 else if yh co = false then 5 else 0) := rfl;go_upto_region 7 with (fail);clear c0 c1 c2 k0 k1;have Ah := iD (AJ.new wr 85 #[.string nm, .int .i64 cu, .int .i64 co]);have BO := iD (hst.alloc (.cells #[.string nm, .int .i64 cu, .int .i64 co] 85));generalize World.alloc _ _ = w1 at *;obtain ⟨bq, FQ⟩ := eX wr.heap.size;rw [← FQ] at Ah ⊢;clear FQ hst;have e0 := Ah.c0;have Kv := iD (qt nm w1 Nk);rcases EH : yO (BA nm) with _ | _
   ·rw [EH] at Kv Cu;clear EH
    go_wp2_with fail
    refine Kv.mono ?_;rintro e w2 ⟨rfl, rfl⟩;have HR := iD (BG 3 (by rw [Cu.out]; simp) (by decide))
    go_wp2_with fail
    go_ret;exact ⟨zC (by rw [HR.out]), BO.bl⟩
   ·have Fw := iD EH;rw [EH] at Kv;clear EH
    go_wp2_with fail
    refine Kv.mono ?_;rintro e w2 ⟨rfl, rfl⟩
    go_wp2_with fail
    clear e0
    go_loopg [5] i (eK w #[.slice (some ⟨b, off, none⟩) nn cn, .slice Ad nd cd] bq i 85 #[.string nm, .int .i64 cu, .int .i64 co] (fun k => ∀ (j : Nat) (y : Nd), j < k → ns[j]? = some y → BA y.name ≠ BA nm))
    case atStart => exact ⟨0, rfl, Nat.zero_le _, rfl, BO, Ah, fun j y hj => absurd hj (by omega)⟩
    case round =>
     clear BO Ah Kv;obtain ⟨k, rfl, hk, rfl, hs, Du, hq⟩ := hrel;by_cases LH : k < i
     ·obtain ⟨b2, IL, y, Cc, AZ, hy, KQ⟩ := (HN.below hs.bl CS).at (k := k) (fun _ => rfl) (by decide) (by omega);injection Cc with Cc;injection Cc with h3 h4;subst h3 h4;have HY := iD hy;have d0 : wr.cell? ⟨b, off + k * 3, none⟩ = some (.string y.name) := KQ 0 _ rfl;clear KQ hy;have e0 := Du.c0;have k0 := hs.bx.c0;have Gx : k < nn := by omega
      go_upto_region 12 with (fail);refine fv (fun W' => W'.cell? ⟨b, off + k * 3, none⟩ = some (.string y.name) ∧ W'.cell? ⟨bq, 0, none⟩ = some (.string nm) ∧ W'.cell? ⟨w.heap.size, 0, none⟩ = some (.slice (some ⟨b, off, none⟩) nn cn)) [] ?_ fun AA => ?_
      ·exact ⟨d0, e0, k0⟩
      try dsimp only at AA
      refine tj 0 41 AA ?_;refine tj 1 42 AA ?_;refine tj 2 43 AA ?_;refine tj 3 44 AA ?_;refine tj 4 45 AA ?_;refine tj 5 46 AA ?_;refine tj 6 47 AA ?_;refine tj 7 48 AA ?_;refine tj 8 49 AA ?_;refine tK ?_;clear AA d0 e0 k0;by_cases he : y.name = nm
      ·subst he;rw [show (y.name.toList == y.name.toList) = true from by simp];have HM : Hid (BA y.name ∈ Un ns i) := oA.2 ⟨k, y, LH, HY, rfl⟩;have HR := iD (BG 4 (by rw [Cu.out, if_neg (by rw [Fw.out]; simp), if_pos HM.out]) (by decide))
       go_wp2_with fail
       go_ret;exact ⟨zC (by rw [HR.out]), hs.bl.drew⟩
      ·rw [mX he]
       have HQ : Hid (∀ (j : Nat) (z : Nd), j < k + 1 → ns[j]? = some z → BA z.name ≠ BA nm) := by
        intro j z hj hz;rcases Nat.lt_succ_iff_lt_or_eq.1 hj with h | rfl
        ·exact hq j z h hz
        ·rw [HY.out] at hz;injection hz with hz;subst hz;exact fun h => he (tI h)
       clear he
       go_wp2_with fail
       go_roundg (i - (k + 1))
       ·exact ⟨k + 1, by go_num, by omega, rfl, hs.drew, Du, HQ⟩
       omega
     ·obtain rfl : k = i := by omega
      have Jo : decide (k < k) = false := by simp
      have HM : Hid (¬ BA nm ∈ Un ns k) := fun hm => by
       obtain ⟨j, y, hj, hy, he⟩ := oA.1 hm;exact hq j y hj hy he
      have e1 := Du.c1;have e2 := Du.c2;have Eu : Hid (vS (Un ns k) ⟨nm, cu, co⟩ = if cu < 0 ∨ 1048576 < cu then 5 else if yh co = false then 5 else 0) := by unfold Hid; rw [Cu.out, if_neg (by rw [Fw.out]; simp), if_neg HM.out]
      by_cases g1 : cu < 0
      ·skip
       have HR := iD (BG 5 (by rw [Eu.out, if_pos (.inl g1)]) (by decide))
       go_wp2_with fail
       go_ret;exact ⟨zC (by rw [HR.out]), hs.bl⟩
      have p1 : decide (cu < 0) = false := by simpa using g1
      by_cases g2 : 1048576 < cu
      ·skip
       have HR := iD (BG 5 (by rw [Eu.out, if_pos (.inr g2)]) (by decide))
       go_wp2_with fail
       go_ret;exact ⟨zC (by rw [HR.out]), hs.bl⟩
      have p2 : decide (1048576 < cu) = false := by simpa using g2
      by_cases g3 : co < 0
      ·skip
       have HR := iD (BG 5 (by rw [Eu.out, if_neg (by omega), if_pos (by simp [yh]; omega)]) (by decide))
       go_wp2_with fail
       go_ret;exact ⟨zC (by rw [HR.out]), hs.bl⟩
      have p3 : decide (co < 0) = false := by simpa using g3
      by_cases g4 : 7 < co
      ·skip
       have HR := iD (BG 5 (by rw [Eu.out, if_neg (by omega), if_pos (by simp [yh]; omega)]) (by decide))
       go_wp2_with fail
       go_ret;exact ⟨zC (by rw [HR.out]), hs.bl⟩
      have p4 : decide (7 < co) = false := by simpa using g4
      have Hu : Hid (vC [] ns = vC (Un ns (k + 1)) (ns.drop (k + 1))) := by
       unfold Hid;rw [hch.out, (sO HX.out (by rw [Eu.out, if_neg (by omega), if_neg (by simp [yh]; omega)])).1, kT HX.out]
      go_wp2_with fail
      go_roundg (nn - (k + 1))
      ·exact ⟨k + 1, by go_num, by omega, rfl, hs, Hu⟩
      omega
  ·obtain rfl : i = nn := by omega
   have Cw : decide (i < i) = false := by simp
   have AE : Hid (zR ns ds = vm ns.length (Ud ns ds 0) (ds.drop 0)) := by
    have h0 : vC [] ns = 0 := by rw [hch.out, List.drop_eq_nil_of_le (by rw [Cb.out]; exact Nat.le_refl _)]; rfl
    unfold Hid;rw [HC.out, if_neg h1, if_neg h2, if_pos h0, rP, Cb.out];simp [Ud, Un]
   clear hch
   go_wp2_with fail
   go_loopg [6] nd (dd w #[.slice An i cn, .slice Ad nd cd] nd ns ds)
   case atStart => exact ⟨0, rfl, Nat.zero_le _, rfl, hst, AE⟩
   case round =>
    clear AE hst k0 k1 Cw;obtain ⟨j, rfl, hj, rfl, hst, hch⟩ := hrel;obtain ⟨k0, k1⟩ := hst.bx.d2;by_cases Nq : j < nd; rotate_left
    ·obtain rfl : j = nd := by omega
     have IV : decide (j < j) = false := by simp
     have HR : Hid (zR ns ds = 0) := by unfold Hid; rw [hch.out, List.drop_eq_nil_of_le (by rw [FL.out]; exact Nat.le_refl _)]; rfl
     go_wp2_with fail
     go_ret;exact ⟨zC (by rw [HR.out]), hst.bl⟩
    obtain ⟨b, off, x, rfl, hb, hx, hc⟩ := (HD.below hst.bl BP).at (fun _ => rfl) (by decide) Nq;have HX := iD hx;have Nk := Ce x (List.mem_of_getElem? hx);obtain ⟨nm, kd, xa, xb, co⟩ := x;simp only at Nk;have c0 : wr.cell? ⟨b, off + j * 5, none⟩ = some (.string nm) := hc 0 _ rfl;have c1 : wr.cell? ⟨b, off + j * 5 + 1, none⟩ = some (.int .i64 kd) := hc 1 _ rfl;have c2 : wr.cell? ⟨b, off + j * 5 + 2, none⟩ = some (.int .i64 xa) := hc 2 _ rfl;have c3 : wr.cell? ⟨b, off + j * 5 + 3, none⟩ = some (.int .i64 xb) := hc 3 _ rfl;have c4 : wr.cell? ⟨b, off + j * 5 + 4, none⟩ = some (.int .i64 co) := hc 4 _ rfl;clear hc hx
    have ED : ∀ e : Int, xp ns.length (Ud ns ds j) ⟨nm, kd, xa, xb, co⟩ = e → e ≠ 0 → zR ns ds = e := fun e he hne => by
     rw [hch.out, pR HX.out (by rw [he]; exact hne), he]
    have BG := iD ED; clear ED;have Cu : Hid (xp ns.length (Ud ns ds j) ⟨nm, kd, xa, xb, co⟩ = if yO (BA nm) = false then 3 else if BA nm ∈ Ud ns ds j then 4 else if kd < 1 ∨ 6 < kd then 6 else if xX kd xa xb i = false then 7 else if yh co = false then 5 else 0) := by unfold Hid xp; rw [Cb.out]
    go_upto_region 20 with (fail);clear c0 c1 c2 c3 c4 k0 k1;have Ah := iD (AJ.new wr 57 #[.string nm, .int .i64 kd, .int .i64 xa, .int .i64 xb, .int .i64 co]);have BO := iD (hst.alloc (.cells #[.string nm, .int .i64 kd, .int .i64 xa, .int .i64 xb, .int .i64 co] 57));generalize World.alloc _ _ = w1 at *;obtain ⟨bq, FQ⟩ := eX wr.heap.size;rw [← FQ] at Ah ⊢;clear FQ hst;have e0 := Ah.c0;have Kv := iD (qt nm w1 Nk);rcases EH : yO (BA nm) with _ | _
    ·rw [EH] at Kv Cu;clear EH
     go_wp2_with fail
     refine Kv.mono ?_;rintro e w2 ⟨rfl, rfl⟩;have HR := iD (BG 3 (by rw [Cu.out]; simp) (by decide))
     go_wp2_with fail
     go_ret;exact ⟨zC (by rw [HR.out]), BO.bl⟩
    have Fw := iD EH;rw [EH] at Kv;clear EH
    go_wp2_with fail
    refine Kv.mono ?_;rintro e w2 ⟨rfl, rfl⟩
    go_wp2_with fail
    clear e0
    go_loopg [8] i (eK w #[.slice An i cn, .slice (some ⟨b, off, none⟩) nd cd] bq i 57 #[.string nm, .int .i64 kd, .int .i64 xa, .int .i64 xb, .int .i64 co] (fun k => ∀ (t : Nat) (y : Nd), t < k → ns[t]? = some y → BA y.name ≠ BA nm))
    case atStart => exact ⟨0, rfl, Nat.zero_le _, rfl, BO, Ah, fun t y ht => absurd ht (by omega)⟩
    case round =>
     clear BO Ah Kv;obtain ⟨k, rfl, hk, rfl, hs, Du, hq⟩ := hrel;have k0 := hs.bx.c0;by_cases LH : k < i
     ·obtain ⟨b2, IL, y, rfl, AZ, hy, KQ⟩ := (HN.below hs.bl CS).at (k := k) (fun _ => rfl) (by decide) LH;have HY := iD hy;have d0 : wr.cell? ⟨b2, IL + k * 3, none⟩ = some (.string y.name) := KQ 0 _ rfl;clear KQ hy;have e0 := Du.c0;go_upto_region 25 with (fail);refine fv (fun W' => W'.cell? ⟨b2, IL + k * 3, none⟩ = some (.string y.name) ∧ W'.cell? ⟨bq, 0, none⟩ = some (.string nm) ∧ W'.cell? ⟨w.heap.size, 0, none⟩ = some (.slice (some ⟨b2, IL, none⟩) i cn)) [] ?_ fun AA => ?_
      ·exact ⟨d0, e0, k0⟩
      try dsimp only at AA
      refine tj 0 91 AA ?_;refine tj 1 92 AA ?_;refine tj 2 93 AA ?_;refine tj 3 94 AA ?_;refine tj 4 95 AA ?_;refine tj 5 96 AA ?_;refine tj 6 97 AA ?_;refine tj 7 98 AA ?_;refine tj 8 99 AA ?_;refine tK ?_;clear AA d0 e0 k0;by_cases he : y.name = nm
      ·subst he;rw [show (y.name.toList == y.name.toList) = true from by simp];have HM : Hid (BA y.name ∈ Ud ns ds j) := oB.2 (.inr ⟨k, y, by rw [Cb.out]; exact LH, HY, rfl⟩);have HR := iD (BG 4 (by rw [Cu.out, if_neg (by rw [Fw.out]; simp), if_pos HM.out]) (by decide))
       go_wp2_with fail
       go_ret;exact ⟨zC (by rw [HR.out]), hs.bl.drew⟩
      ·rw [mX he]
       have HQ : Hid (∀ (t : Nat) (z : Nd), t < k + 1 → ns[t]? = some z → BA z.name ≠ BA nm) := by
        intro t z ht hz;rcases Nat.lt_succ_iff_lt_or_eq.1 ht with h | rfl
        ·exact hq t z h hz
        ·rw [HY.out] at hz;injection hz with hz;subst hz;exact fun h => he (tI h)
       clear he
       go_wp2_with fail
       go_roundg (i - (k + 1))
       ·exact ⟨k + 1, by go_num, by omega, rfl, hs.drew, Du, HQ⟩
       omega
     ·obtain rfl : k = i := by omega
      have Jo : decide (k < k) = false := by simp
      go_wp2_with fail
      clear Jo;have AG := iD hq.out;clear k0
      go_loopg [9] j (eK w #[.slice An k cn, .slice (some ⟨b, off, none⟩) nd cd] bq j 57 #[.string nm, .int .i64 kd, .int .i64 xa, .int .i64 xb, .int .i64 co] (fun k => ∀ (t : Nat) (y : Dv), t < k → ds[t]? = some y → BA y.name ≠ BA nm))
      case atStart => exact ⟨0, rfl, Nat.zero_le _, rfl, hs, Du, fun t y ht => absurd ht (by omega)⟩
      case round =>
       clear hs Du hq;obtain ⟨t, rfl, ht, rfl, hs, Du, hq⟩ := hrel;have k0 := hs.bx.c0;by_cases AB : t < j
       ·obtain ⟨b2, IL, y, Cc, AZ, hy, KQ⟩ := (HD.below hs.bl BP).at (k := t) (fun _ => rfl) (by decide) (by omega);injection Cc with Cc;injection Cc with h3 h4;subst h3 h4;have HY := iD hy;have d0 : wr.cell? ⟨b, off + t * 5, none⟩ = some (.string y.name) := KQ 0 _ rfl;clear KQ hy;have e0 := Du.c0;have k1 := hs.bx.c1;have Ua : t < nd := by omega
        go_upto_region 30 with (fail);refine fv (fun W' => W'.cell? ⟨b, off + t * 5, none⟩ = some (.string y.name) ∧ W'.cell? ⟨bq, 0, none⟩ = some (.string nm) ∧ W'.cell? ⟨w.heap.size, 1, none⟩ = some (.slice (some ⟨b, off, none⟩) nd cd)) [] ?_ fun AA => ?_
        ·exact ⟨d0, e0, k1⟩
        try dsimp only at AA
        refine tj 0 105 AA ?_;refine tj 1 106 AA ?_;refine tj 2 107 AA ?_;refine tj 3 108 AA ?_;refine tj 4 109 AA ?_;refine tj 5 110 AA ?_;refine tj 6 111 AA ?_;refine tj 7 112 AA ?_;refine tj 8 113 AA ?_;refine tK ?_;clear AA d0 e0 k0 k1;by_cases he : y.name = nm
        ·subst he;rw [show (y.name.toList == y.name.toList) = true from by simp];have HM : Hid (BA y.name ∈ Ud ns ds j) := oB.2 (.inl ⟨t, y, AB, HY, rfl⟩);have HR := iD (BG 4 (by rw [Cu.out, if_neg (by rw [Fw.out]; simp), if_pos HM.out]) (by decide))
         go_wp2_with fail
         go_ret;exact ⟨zC (by rw [HR.out]), hs.bl.drew⟩
        ·rw [mX he]
         have HQ : Hid (∀ (r : Nat) (z : Dv), r < t + 1 → ds[r]? = some z → BA z.name ≠ BA nm) := by
          intro r z hr hz;rcases Nat.lt_succ_iff_lt_or_eq.1 hr with h | rfl
          ·exact hq r z h hz
          ·rw [HY.out] at hz;injection hz with hz;subst hz;exact fun h => he (tI h)
         clear he
         go_wp2_with fail
         go_roundg (j - (t + 1))
         ·exact ⟨t + 1, by go_num, by omega, rfl, hs.drew, Du, HQ⟩
         omega
       ·obtain rfl : t = j := by omega
        have AH : decide (t < t) = false := by simp
        have HM : Hid (¬ BA nm ∈ Ud ns ds t) := fun hm => by
         rcases oB.1 hm with ⟨r, y, hr, hy, he⟩ | ⟨r, y, hr, hy, he⟩
         ·exact hq r y hr hy he
         ·exact AG r y (by rw [Cb.out] at hr; exact hr) hy he
        have e1 := Du.c1;have e2 := Du.c2;have e3 := Du.c3;have e4 := Du.c4;have Eu : Hid (xp ns.length (Ud ns ds t) ⟨nm, kd, xa, xb, co⟩ = if kd < 1 ∨ 6 < kd then 6 else if xX kd xa xb k = false then 7 else if yh co = false then 5 else 0) := by unfold Hid; rw [Cu.out, if_neg (by rw [Fw.out]; simp), if_neg HM.out]
        by_cases g1 : kd < 1
        ·skip
         have HR := iD (BG 6 (by rw [Eu.out, if_pos (.inl g1)]) (by decide))
         go_wp2_with fail
         go_ret;exact ⟨zC (by rw [HR.out]), hs.bl⟩
        have p1 : decide (kd < 1) = false := by simpa using g1
        by_cases g2 : 6 < kd
        ·skip
         have HR := iD (BG 6 (by rw [Eu.out, if_pos (.inr g2)]) (by decide))
         go_wp2_with fail
         go_ret;exact ⟨zC (by rw [HR.out]), hs.bl⟩
        have p2 : decide (6 < kd) = false := by simpa using g2
        have Ky : Hid (xp ns.length (Ud ns ds t) ⟨nm, kd, xa, xb, co⟩ = if xX kd xa xb k = false then 7 else if yh co = false then 5 else 0) := by unfold Hid; rw [Eu.out, if_neg (by omega)]
        have Ik : Hid (xX kd xa xb k = if xa < 0 then false else if (k : Int) ≤ xa then false else if zV kd = false then decide (xb = -1) else decide (0 ≤ xb) && decide (xb < k) && !decide (xb = xa)) := rfl;by_cases g3 : xa < 0
        ·skip
         have HR := iD (BG 7 (by rw [Ky.out, if_pos (by rw [Ik.out, if_pos g3])]) (by decide))
         go_wp2_with fail
         go_ret;exact ⟨zC (by rw [HR.out]), hs.bl⟩
        have p3 : decide (xa < 0) = false := by simpa using g3
        by_cases g4 : (k : Int) ≤ xa
        ·skip
         have HR := iD (BG 7 (by rw [Ky.out, if_pos (by rw [Ik.out, if_neg g3, if_pos g4])]) (by decide))
         go_wp2_with fail
         go_ret;exact ⟨zC (by rw [HR.out]), hs.bl⟩
        have p4 : decide ((k : Int) ≤ xa) = false := by simpa using g4
        have Nb : Hid (xX kd xa xb k = if zV kd = false then decide (xb = -1) else decide (0 ≤ xb) && decide (xb < k) && !decide (xb = xa)) := by unfold Hid; rw [Ik.out, if_neg g3, if_neg g4]
        have Cq := iD (vg kd);rcases Eh : zV kd with _ | _
        ·have IA : Hid (xX kd xa xb k = decide (xb = -1)) := by unfold Hid; rw [Nb.out, if_pos Eh]
         rw [Eh] at Cq;clear Eh;by_cases g5 : xb = -1; rotate_left
         ·have p5 : (xb != -1) = true := by simpa using g5
          go_wp2_with fail
          refine (Cq _).mono ?_;rintro e w2 ⟨rfl, rfl⟩
          go_wp2_with fail
          refine (Cq _).mono ?_;rintro e w2 ⟨rfl, rfl⟩;have HR := iD (BG 7 (by rw [Ky.out, if_pos (by rw [IA.out, decide_eq_false g5])]) (by decide))
          go_wp2_with fail
          go_ret;exact ⟨zC (by rw [HR.out]), hs.bl⟩
         have p5 : (xb != -1) = false := by simpa using g5
         have Sj : Hid (xp ns.length (Ud ns ds t) ⟨nm, kd, xa, xb, co⟩ = if yh co = false then 5 else 0) := by unfold Hid; rw [Ky.out, if_neg (by rw [IA.out, decide_eq_true g5]; simp)]
         clear Eu Ky Ik Nb IA g5
         go_wp2_with fail
         refine (Cq _).mono ?_;rintro e w2 ⟨rfl, rfl⟩
         go_wp2_with fail
         refine (Cq _).mono ?_;rintro e w2 ⟨rfl, rfl⟩;by_cases g8 : co < 0
         ·skip
          have HR := iD (BG 5 (by rw [Sj.out, if_pos (by simp [yh]; omega)]) (by decide))
          go_wp2_with fail
          go_ret;exact ⟨zC (by rw [HR.out]), hs.bl⟩
         have p8 : decide (co < 0) = false := by simpa using g8
         by_cases g9 : 7 < co
         ·skip
          have HR := iD (BG 5 (by rw [Sj.out, if_pos (by simp [yh]; omega)]) (by decide))
          go_wp2_with fail
          go_ret;exact ⟨zC (by rw [HR.out]), hs.bl⟩
         have p9 : decide (7 < co) = false := by simpa using g9
         have Hu : Hid (zR ns ds = vm ns.length (Ud ns ds (t + 1)) (ds.drop (t + 1))) := by
          unfold Hid;rw [hch.out, uW HX.out (by rw [Sj.out, if_neg (by simp [yh]; omega)]), oQ HX.out]
         go_wp2_with fail
         go_roundg (nd - (t + 1))
         ·exact ⟨t + 1, by go_num, by omega, rfl, hs, Hu⟩
         omega
        ·have IA : Hid (xX kd xa xb k = (decide (0 ≤ xb) && decide (xb < k) && !decide (xb = xa))) := by unfold Hid; rw [Nb.out, if_neg (by rw [Eh]; simp)]
         rw [Eh] at Cq;clear Eh;by_cases g5 : xb < 0
         ·go_wp2_with fail
          refine (Cq _).mono ?_;rintro e w2 ⟨rfl, rfl⟩;have HR := iD (BG 7 (by rw [Ky.out, if_pos (by rw [IA.out, decide_eq_false (show ¬ 0 ≤ xb by omega)]; rfl)]) (by decide))
          go_wp2_with fail
          go_ret;exact ⟨zC (by rw [HR.out]), hs.bl⟩
         have p5 : decide (xb < 0) = false := by simpa using g5
         by_cases g6 : (k : Int) ≤ xb
         ·go_wp2_with fail
          refine (Cq _).mono ?_;rintro e w2 ⟨rfl, rfl⟩;have HR := iD (BG 7 (by rw [Ky.out, if_pos (by rw [IA.out, decide_eq_false (show ¬ xb < k by omega)]; simp)]) (by decide))
          go_wp2_with fail
          go_ret;exact ⟨zC (by rw [HR.out]), hs.bl⟩
         have p6 : decide ((k : Int) ≤ xb) = false := by simpa using g6
         by_cases g7 : xb = xa
         ·have p7 : (xb == xa) = true := by simpa using g7
          have Jd := iD (BG 7 (by rw [Ky.out, if_pos (by rw [IA.out, decide_eq_true g7]; simp)]) (by decide));clear g7 Ik Nb IA Eu Ky
          go_wp2_with fail
          refine (Cq _).mono ?_;rintro e w2 ⟨rfl, rfl⟩
          go_wp2_with fail
          go_ret;exact ⟨zC (by rw [Jd.out]), hs.bl⟩
         have p7 : (xb == xa) = false := by simpa using g7
         have Sj : Hid (xp ns.length (Ud ns ds t) ⟨nm, kd, xa, xb, co⟩ = if yh co = false then 5 else 0) := by unfold Hid; rw [Ky.out, if_neg (by rw [IA.out, decide_eq_true (show 0 ≤ xb by omega), decide_eq_true (show xb < k by omega), decide_eq_false g7]; simp)]
         clear Eu Ky Ik Nb IA g7
         go_wp2_with fail
         refine (Cq _).mono ?_;rintro e w2 ⟨rfl, rfl⟩
         go_wp2_with fail
         refine (Cq _).mono ?_;rintro e w2 ⟨rfl, rfl⟩;by_cases g8 : co < 0
         ·skip
          have HR := iD (BG 5 (by rw [Sj.out, if_pos (by simp [yh]; omega)]) (by decide))
          go_wp2_with fail
          go_ret;exact ⟨zC (by rw [HR.out]), hs.bl⟩
         have p8 : decide (co < 0) = false := by simpa using g8
         by_cases g9 : 7 < co
         ·skip
          have HR := iD (BG 5 (by rw [Sj.out, if_pos (by simp [yh]; omega)]) (by decide))
          go_wp2_with fail
          go_ret;exact ⟨zC (by rw [HR.out]), hs.bl⟩
         have p9 : decide (7 < co) = false := by simpa using g9
         have Hu : Hid (zR ns ds = vm ns.length (Ud ns ds (t + 1)) (ds.drop (t + 1))) := by
          unfold Hid;rw [hch.out, uW HX.out (by rw [Sj.out, if_neg (by simp [yh]; omega)]), oQ HX.out]
         go_wp2_with fail
         go_roundg (nd - (t + 1))
         ·exact ⟨t + 1, by go_num, by omega, rfl, hs, Hu⟩
         omega
def wV (ns : List Nd) (ds : List Dv) (s : List Int) (m : Int) : Int := if zR ns ds ≠ 0 then zR ns ds else if s.length ≠ ds.length then 9 else if ∀ p ∈ s, 1 ≤ p ∧ p ≤ m then 0 else 10
theorem mu (ns : List Nd) (ds : List Dv) (s : List Int) : wV ns ds s 2 = zQ ns ds s := by
 unfold wV zQ
 have e : (∀ p ∈ s, 1 ≤ p ∧ p ≤ 2) ↔ (∀ p ∈ s, posB p = true) := by
  constructor <;> intro h p hp <;> have := h p hp <;> simp [posB] at * <;> omega
 split
 ·rfl
 ·split
  ·rfl
  ·by_cases h : ∀ p ∈ s, posB p = true
   ·rw [if_pos h, if_pos (e.2 h)]
   ·rw [if_neg h, if_neg (fun k => h (e.1 k))]
def RpR (w : World) (N : Array Value) (n : Nat) (s : List Int) (m : Int) (gk : Nat) (iv : Value) (wr : World) : Prop := ∃ i : Nat, iv = .int .i64 i ∧ i ≤ n ∧ gk = n - i ∧ Hid (uJ w N wr) ∧ Hid (∀ p ∈ s.take i, 1 ≤ p ∧ p ≤ m)
theorem ow (An Ad As : Option Addr) (nn cn nd cd n c Bn Bd Bs : Nat) (ns : List Nd) (ds : List Dv) (s : List Int) (m : Int) (w : World) (hn : Sl w Bn 3 An nn cn (ns.flatMap Nd.cells)) (hd : Sl w Bd 5 Ad nd cd (ds.flatMap Dv.cells)) (hs : Sl w Bs 1 As n c (zE s)) (CS : Bn ≤ w.heap.size) (BP : Bd ≤ w.heap.size) (CJ : Bs ≤ w.heap.size)
 (Bg : FP ns) (BU : Fv ds) :
 Calls prog 117 #[.agg #[.slice An nn cn, .slice Ad nd cd], .slice As n c, .int .i64 m] w fun e w' => e = .returned (.int .i64 (wV ns ds s m)) ∧ bW w w' := by
 have FU := iD (hs.len (fun _ => rfl) (by decide)); have FL := iD (hd.len (fun _ => rfl) (by decide));obtain ⟨Ip, LM⟩ := hs.le;obtain ⟨TY, JU⟩ := hd.le;have HE : Hid (wV ns ds s m = if zR ns ds ≠ 0 then zR ns ds else if n ≠ nd then 9 else if ∀ p ∈ s, 1 ≤ p ∧ p ≤ m then 0 else 10) := by unfold Hid; rw [wV, FU.out, FL.out]
 have HS := iD hs;have Cm := iD (rX An Ad nn cn nd cd Bn Bd ns ds (w.alloc (.cells #[.slice An nn cn, .slice Ad nd cd] 30)) (hn.alloc CS _) (hd.alloc BP _) (by simp; omega) (by simp; omega) Bg BU);clear hn hd hs Bg BU;generalize zR ns ds = er at *;have Gq : Hid (uJ w #[.slice An nn cn, .slice Ad nd cd] (w.alloc (.cells #[.slice An nn cn, .slice Ad nd cd] 30))) := ⟨AJ.new _ _ _, (Below.refl _ _).alloc lR _⟩;by_cases h0 : er = 0; rotate_left
 ·have h0' : (er != 0) = true := by simpa using h0
  have HR : Hid (wV ns ds s m = er) := by unfold Hid; rw [HE.out, if_pos h0]
  clear h0
  go_enter func117, ntmps117
  go_wp2_with fail
  refine Cm.mono ?_;rintro e w1 ⟨rfl, AV⟩;have Er := iD (Gq.later AV)
  go_wp2_with fail
  go_ret;exact ⟨zC (by rw [HR.out]), Er.bl⟩
 subst h0
 go_enter func117, ntmps117
 go_wp2_with fail
 refine Cm.mono ?_;rintro e w1 ⟨rfl, AV⟩;have Er := iD (Gq.later AV);clear AV Cm Gq;have k1 := Er.bx.c1;by_cases AA : n = nd; rotate_left
 ·have q : decide (n = nd) = false := by simpa using AA
  have q' : ((n : Int) != (nd : Int)) = true := by simp; omega
  have HR : Hid (wV ns ds s m = 9) := by unfold Hid; rw [HE.out, if_neg (by simp), if_pos AA]
  clear AA
  go_wp2_with fail
  go_ret;exact ⟨zC (by rw [HR.out]), Er.bl⟩
 subst AA
 go_wp2_with fail
 clear k1
 go_loopg [8] n (RpR w #[.slice An nn cn, .slice Ad n cd] n s m)
 case atStart => exact ⟨0, rfl, Nat.zero_le _, rfl, Er, by simp [Hid]⟩
 case round =>
  clear Er;obtain ⟨i, rfl, hi, rfl, hst, CP⟩ := hrel;by_cases hlt : i < n
  ·obtain ⟨b, off, x, rfl, hb, hx, hc⟩ := (HS.below hst.bl CJ).at1 hlt;have HX := iD hx; clear hx;by_cases h1 : x < 1
   ·have HR : Hid (wV ns ds s m = 10) := by
     unfold Hid;rw [HE.out, if_neg (by simp), if_neg (by simp), if_neg (fun h => by have := h x (List.mem_of_getElem? HX.out); omega)]
    go_wp2_with fail
    go_ret;exact ⟨zC (by rw [HR.out]), hst.bl⟩
   ·have q1 : decide (x < 1) = false := by simpa using h1
    by_cases h2 : m < x
    ·have HR : Hid (wV ns ds s m = 10) := by
      unfold Hid;rw [HE.out, if_neg (by simp), if_neg (by simp), if_neg (fun h => by have := h x (List.mem_of_getElem? HX.out); omega)]
     go_wp2_with fail
     go_ret;exact ⟨zC (by rw [HR.out]), hst.bl⟩
    ·have q2 : decide (m < x) = false := by simpa using h2
     go_wp2_with fail
     go_roundg (n - (i + 1))
     case rel =>
      refine ⟨i + 1, by go_num, by omega, rfl, hst, fun p hp => ?_⟩;rw [zP HX.out] at hp;rcases List.mem_append.1 hp with h | h
      ·exact CP p h
      ·rw [List.mem_singleton.1 h]; omega
     case measure => omega
  ·obtain rfl : i = n := by omega
   have IV : decide (i < i) = false := by simp
   have HR : Hid (wV ns ds s m = 0) := by
    unfold Hid;have := CP.out;rw [List.take_of_length_le (by rw [FU.out]; exact Nat.le_refl _)] at this;rw [HE.out, if_neg (by simp), if_neg (by simp), if_pos this]
   go_wp2_with fail
   go_ret;exact ⟨zC (by rw [HR.out]), hst.bl⟩
theorem rU (An Ad As : Option Addr) (nn cn nd cd n c Bn Bd Bs : Nat) (ns : List Nd) (ds : List Dv) (s : List Int) (w : World) (hn : Sl w Bn 3 An nn cn (ns.flatMap Nd.cells)) (hd : Sl w Bd 5 Ad nd cd (ds.flatMap Dv.cells)) (hs : Sl w Bs 1 As n c (zE s)) (CS : Bn ≤ w.heap.size) (BP : Bd ≤ w.heap.size) (CJ : Bs ≤ w.heap.size)
 (Bg : FP ns) (BU : Fv ds) :
 Calls prog 79 #[.agg #[.slice An nn cn, .slice Ad nd cd], .slice As n c] w fun e w' => e = .returned (.int .i64 (zQ ns ds s)) ∧ bW w w' := by
 have HC := iD (ow An Ad As nn cn nd cd n c Bn Bd Bs ns ds s 2 (w.alloc (.cells #[.slice An nn cn, .slice Ad nd cd] 30)) (hn.alloc CS _) (hd.alloc BP _) (hs.alloc CJ _) (by simp; omega) (by simp; omega) (by simp; omega) Bg BU);rw [mu] at HC;clear hn hd hs Bg BU
 go_enter func79, ntmps79
 go_wp2_with fail
 refine HC.mono ?_;rintro e w1 ⟨rfl, AV⟩
 go_wp2_with fail
 go_ret;exact ⟨rfl, ((Below.refl _ _).alloc lR _).trans (AV.mono (by simp))⟩
def tu (l : List Int) : Nat := (l.map Int.toNat).sum
theorem rQ : ∀ {l : List Int} {k : Nat} {x : Int} (y : Int), l[k]? = some x → tu (l.set k y) + x.toNat = tu l + y.toNat
 | [], k, x, y, h => by simp at h
 | a :: l, 0, x, y, h => by simp at h; subst h; simp [tu]; omega
 | a :: l, k + 1, x, y, h => by
  simp at h;have := rQ y h;simp [tu] at *;omega
def qg (nn : Nat) (ds : List Dv) (s out : List Int) : Prop := out.length = nn ∧ ∀ v : Nat, v < nn → ∃ p : Nat, out[v]? = some (p : Int) ∧ p ≤ v ∧ yH ds s p v
def jk (ds : List Dv) (s out : List Int) (i : Nat) : Prop := ∀ x, ds[i]? = some x → ui s i = true → zV x.kind = true → out[x.a.toNat]? = out[x.b.toNat]?
section
variable {nn : Nat} {ds : List Dv} {s out : List Int}
theorem qg.put (h : qg nn ds s out) {i : Nat} {x : Dv} {a b p q : Nat} (hx : ds[i]? = some x) (hc : ui s i = true) (hj : zV x.kind = true) (ha : x.a = a) (hb : x.b = b) (Iw : a < nn) (Ov : b < nn) (Oy : a ≠ b) (hp : out[a]? = some (p : Int)) (hq : out[b]? = some (q : Int)) (LF : p ≠ q) :
 qg nn ds s ((out.set a (min p q : Nat)).set b (min p q : Nat)) ∧ tu ((out.set a (min p q : Nat)).set b (min p q : Nat)) < tu out := by
 have hA : xt x a = b := by unfold xt; rw [if_neg (by rw [hj]; simp), if_pos ha, hb]
 have hB : xt x b = a := by unfold xt; rw [if_neg (by rw [hj]; simp), if_neg (by omega), if_pos hb, ha]
 have AH : yH ds s a b := by have := yH.edge (s := s) (u := (a : Int)) hx hc (by rw [hA]; omega); rwa [hA] at this
 have AG : yH ds s b a := by have := yH.edge (s := s) (u := (b : Int)) hx hc (by rw [hB]; omega); rwa [hB] at this
 obtain ⟨p', Kt, Pz, AE⟩ := h.2 a Iw;obtain ⟨q', IU, TP, AB⟩ := h.2 b Ov;have e1 : p' = p := by rw [hp] at Kt; injection Kt with e; omega
 have e2 : q' = q := by rw [hq] at IU; injection IU with e; omega
 subst e1 e2;have hm : (min p' q' = p' ∧ p' < q') ∨ (min p' q' = q' ∧ q' < p') := by omega
 have ca : yH ds s (min p' q' : Nat) a := by
  rcases hm with ⟨e, _⟩ | ⟨e, _⟩ <;> rw [e]
  ·exact AE
  ·exact AB.trans AG
 have cb : yH ds s (min p' q' : Nat) b := ca.trans AH;have IE : out.length = nn := h.1;refine ⟨⟨by simp [h.1], fun v hv => ?_⟩, ?_⟩
 ·rw [List.getElem?_set, List.getElem?_set];by_cases Dt : b = v
  ·subst Dt;rw [if_pos rfl, if_pos (by simp; omega)];exact ⟨min p' q', rfl, by omega, cb⟩
  ·rw [if_neg Dt];by_cases UY : a = v
   ·subst UY;rw [if_pos rfl, if_pos (by omega)];exact ⟨min p' q', rfl, by omega, ca⟩
   ·rw [if_neg UY];exact h.2 v hv
 ·have s1 := rQ (min p' q' : Nat) hp;have s2 := rQ (l := out.set a (min p' q' : Nat)) (k := b) (x := (q' : Int)) (min p' q' : Nat) (by rw [List.getElem?_set, if_neg Oy]; exact hq);simp only [Int.toNat_natCast] at s1 s2;omega
theorem qg.start (nn : Nat) (ds : List Dv) (s out : List Int) (hl : out.length = nn) (h : ∀ v : Nat, v < nn → out[v]? = some (v : Int)) : qg nn ds s out := ⟨hl, fun v hv => ⟨v, h v hv, Nat.le_refl _, yH.refl _ _ _⟩⟩
theorem qg.final (h : qg nn ds s out) (h1 : ∀ i, i < ds.length → jk ds s out i) : yW nn ds s out := by
 have same : ∀ (u v : Int), 0 ≤ u → u < nn → yH ds s u v → out[u.toNat]? = out[v.toNat]? := by
  intro u v h0 hu hc;unfold yH at hc
  induction hc with
  | base hv => rw [List.mem_singleton.1 hv]
  | step hr _ hx hU QQ ih =>
   rename_i a i x _
   rw [ih];have hL := h1 i (List.getElem?_eq_some_iff.1 hx).1 x hx hU;unfold xt at QQ ⊢;by_cases hj : zV x.kind = false
   ·rw [if_pos hj] at QQ; omega
   ·simp only [if_neg hj] at QQ ⊢;have hL := hL (by simpa using hj);by_cases ha : x.a = a
    ·rw [if_pos ha, ← ha]; exact hL
    ·simp only [if_neg ha] at QQ ⊢;by_cases hb : x.b = a
     ·rw [if_pos hb, ← hb]; exact hL.symm
     ·rw [if_neg hb] at QQ; omega
 refine ⟨h.1, fun v hv => ?_⟩;obtain ⟨p, h2, h3, h4⟩ := h.2 v hv;refine ⟨p, h2, h3, h4, fun u hu hc => ?_⟩;obtain ⟨q, k2, k3, k4⟩ := h.2 u hu;have := same u v (by omega) (by omega) hc;simp only [Int.toNat_natCast] at this;rw [h2, k2] at this;injection this with e;omega
end
structure vF (w : World) (N : Array Value) (go nn : Nat) (out : List Int) (wr : World) : Prop where
 bx : AJ wr w.heap.size 30 N
 ob : zL wr (w.heap.size + 1) (some ⟨go, 0, none⟩) nn nn out
 bl : bW w wr
section
variable {w wr wr' : World} {N : Array Value} {go nn : Nat} {out : List Int}
theorem vF.ge (h : vF w N go nn out wr) : w.heap.size + 1 ≤ go ∧ go < wr.heap.size := h.ob.lt go rfl
theorem vF.later (h : vF w N go nn out wr) (hb : bW wr wr') : vF w N go nn out wr' := ⟨h.bx.below hb h.bx.lt, h.ob.later hb, h.bl.trans (hb.mono h.bl.size)⟩
theorem vF.alloc (h : vF w N go nn out wr) (o : Obj) : vF w N go nn out (wr.alloc o) := h.later ((Below.refl _ _).alloc lR _)
theorem vF.drew (h : vF w N go nn out wr) : vF w N go nn out wr.drew := h.later (Below.refl _ _).drew
theorem vF.put (h : vF w N go nn out wr) {k : Nat} (hk : k < nn) (v : Int) : vF w N go nn (out.set k v) (wr.setCell ⟨go, k, none⟩ (.int .i64 v)) := by
 have hg := h.ge;obtain ⟨g, x, hA, h1, h2, hx, hc, hf, hst⟩ := h.ob.at hk;injection hA with hA;injection hA with hA;subst hA;exact ⟨h.bx.far (by simp; omega) _, hst v, h.bl.setCell (by simp; omega) _⟩
theorem vF.cell (h : vF w N go nn out wr) {k : Nat} (hk : k < nn) : ∃ x, out[k]? = some x ∧ wr.cell? ⟨go, k, none⟩ = some (.int .i64 x) ∧ wr.frozen? ⟨go, k, none⟩ = false := by
 obtain ⟨g, x, hA, h1, h2, hx, hc, hf, hst⟩ := h.ob.at hk;injection hA with hA;injection hA with hA;subst hA;exact ⟨x, hx, hc, hf⟩
end
def lf (w : World) (nn : Nat) (er : Int) (ds : List Dv) (s : List Int) (e : Ending) (w' : World) : Prop :=
 Hid (Below w.heap.size w w') ∧ ((er ≠ 0 ∧ e = .returned (.tuple #[.slice none 0 0, .int .i64 er])) ∨ (er = 0 ∧ ∃ (A : Option Addr) (out : List Int), e = .returned (.tuple #[.slice A nn nn, .int .i64 0]) ∧ Hid (zL w' w.heap.size A nn nn out) ∧ Hid (yW nn ds s out)))
def dZ (w : World) (N : Array Value) (go nn gk : Nat) (iv : Value) (wr : World) : Prop := ∃ (i : Nat) (out : List Int), iv = .int .i64 i ∧ i ≤ nn ∧ gk = nn - i ∧ Hid (vF w N go nn out wr) ∧ Hid (∀ j : Nat, j < i → out[j]? = some (j : Int))
def dY (w : World) (N : Array Value) (go nn : Nat) (ds : List Dv) (s : List Int) (gk : Nat) (cv : Value) (wr : World) : Prop := ∃ (ch : Bool) (out : List Int), cv = .bool ch ∧ gk = tu out + ch.toNat ∧ Hid (vF w N go nn out wr) ∧ Hid (qg nn ds s out) ∧ Hid (ch = false → ∀ i, i < ds.length → jk ds s out i)
def dX (w : World) (N : Array Value) (go nn nd : Nat) (ds : List Dv) (s : List Int) (S0 : Nat) (gk : Nat) (cv iv : Value) (wr : World) : Prop := ∃ (ch : Bool) (j : Nat) (out : List Int), cv = .bool ch ∧ iv = .int .i64 j ∧ j ≤ nd ∧ gk = nd - j ∧ Hid (vF w N go nn out wr) ∧ Hid (qg nn ds s out) ∧ Hid (ch = false → ∀ i, i < j → jk ds s out i) ∧ Hid (tu out ≤ S0 ∧ (ch = true → tu out < S0))
theorem uq (An Ad As : Option Addr) (nn cn nd cd n c Bn Bd Bs : Nat) (ns : List Nd) (ds : List Dv) (s : List Int) (w : World) (hn : Sl w Bn 3 An nn cn (ns.flatMap Nd.cells)) (hd : Sl w Bd 5 Ad nd cd (ds.flatMap Dv.cells)) (hs : Sl w Bs 1 As n c (zE s)) (CS : Bn ≤ w.heap.size) (BP : Bd ≤ w.heap.size) (CJ : Bs ≤ w.heap.size)
 (Bg : FP ns) (BU : Fv ds) (Bq : nn ≤ 10000) (Ae : zQ ns ds s = 0 → nd ≤ n ∧ yf nn ds ∧ ∀ x ∈ ds, zV x.kind = true → x.b ≠ x.a) :
 Calls prog 55 #[.agg #[.slice An nn cn, .slice Ad nd cd], .slice As n c] w (lf w nn (zQ ns ds s) ds s) := by
 have FL := iD (hd.len (fun _ => rfl) (by decide));obtain ⟨TY, JU⟩ := hd.le;obtain ⟨AP, hsm⟩ := hs.le;have Cm := iD (rU An Ad As nn cn nd cd n c Bn Bd Bs ns ds s (w.alloc (.cells #[.slice An nn cn, .slice Ad nd cd] 30)) (hn.alloc CS _) (hd.alloc BP _) (hs.alloc CJ _) (by simp; omega) (by simp; omega) (by simp; omega) Bg BU);have HD := iD hd; have HS := iD hs; have Ik := iD Ae;clear hn hd hs Bg BU Ae;have Gq : Hid (uJ w #[.slice An nn cn, .slice Ad nd cd] (w.alloc (.cells #[.slice An nn cn, .slice Ad nd cd] 30))) := ⟨AJ.new _ _ _, (Below.refl _ _).alloc lR _⟩;generalize zQ ns ds s = er at *;by_cases h0 : er = 0; rotate_left
 ·have h0' : (er != 0) = true := by simpa using h0
  have H0 := iD h0; clear h0
  go_enter func55, ntmps55
  go_wp2_with fail
  refine Cm.mono ?_;rintro e w1 ⟨rfl, AV⟩;have Er := iD (Gq.later AV)
  go_wp2_with fail
  go_ret2;exact ⟨Er.bl, .inl ⟨H0, rfl⟩⟩
 subst h0;have Ae := Ik rfl;have Oh : nd ≤ n := Ae.1;have HE := iD Ae.2.1; have BH := iD Ae.2.2;clear Ae Ik
 go_enter func55, ntmps55
 go_wp2_with fail
 refine Cm.mono ?_;rintro e w1 ⟨rfl, AV⟩;have Er := iD (Gq.later AV);clear AV Cm Gq;have k0 := Er.bx.c0;have FX := vf nn (by omega) w1
 have SG : Hid (vF w #[.slice An nn cn, .slice Ad nd cd] w1.heap.size nn (List.replicate nn 0) (w1.alloc (.cells (zE (List.replicate nn 0)).toArray 3))) :=
  ⟨Er.bx.alloc _, tZ Er.bx.lt (by omega), (Er.alloc _).bl⟩
 clear Er
 go_wp2_with fail
 clear FX k0;generalize World.alloc _ _ = W at *;obtain ⟨go, hgo⟩ := eX w1.heap.size;rw [← hgo] at SG ⊢;clear hgo
 go_loopg [8] nn (dZ w #[.slice An nn cn, .slice Ad nd cd] go nn)
 case atStart => exact ⟨0, _, rfl, Nat.zero_le _, rfl, SG, fun j hj => absurd hj (by omega)⟩
 case round =>
  clear SG;obtain ⟨i, out, rfl, hi, rfl, hst, hf⟩ := hrel;by_cases hlt : i < nn
  ·obtain ⟨x, hx, hcell, AX⟩ := hst.cell hlt;clear hx;have HM := iD (hst.put hlt i);have Iz := iD hst.ob.len
   go_wp2_with fail
   go_roundg (nn - (i + 1))
   case rel =>
    refine ⟨i + 1, _, by go_num, by omega, rfl, HM, fun j hj => ?_⟩;rw [List.getElem?_set];split
    ·rename_i e; subst e; rw [if_pos (by rw [Iz.out]; exact hlt)]
    ·exact hf j (by omega)
   case measure => omega
  ·obtain rfl : i = nn := by omega
   have Cw : decide (i < i) = false := by simp
   have OI := iD (qg.start i ds s out hst.ob.len hf);clear hf
   go_wp2_with fail
   clear Cw
   go_loopg [9] (tu out + 1) (dY w #[.slice An i cn, .slice Ad nd cd] go i ds s)
   case atStart => exact ⟨true, out, rfl, rfl, hst, OI, fun h => by cases h⟩
   case round =>
    clear hst OI;obtain ⟨ch, out, rfl, rfl, hst, NA, hdone⟩ := hrel;rcases ch with _ | _
    ·go_wp2_with fail
     go_ret2;exact ⟨hst.bl, .inr ⟨rfl, _, out, rfl, hst.ob.mono (by omega), NA.final (hdone (by simp))⟩⟩
    ·clear hdone
     go_wp2_with fail
     go_loopg [9, 10] nd (dX w #[.slice An i cn, .slice Ad nd cd] go i nd ds s (tu out))
     case atStart => exact ⟨false, 0, out, rfl, rfl, Nat.zero_le _, rfl, hst, NA, fun _ t ht => absurd ht (by omega), ⟨Nat.le_refl _, fun h => by cases h⟩⟩
     case round =>
      obtain ⟨S0, AK⟩ := eX (tu out);rw [← AK] at hrel;have MI := iD AK;clear hst NA AK;obtain ⟨ch, j, out, rfl, rfl, hj, rfl, hst, NA, Od, JP⟩ := hrel;have k1 := hst.bx.c1;by_cases Nq : j < nd; rotate_left
      ·obtain rfl : j = nd := by omega
       have IV : decide (j < j) = false := by simp
       go_wp2_with fail
       go_roundg (tu out + ch.toNat)
       case rel => exact ⟨ch, out, rfl, rfl, hst, NA, fun h t ht => Od h t (by rw [FL.out] at ht; exact ht)⟩
       case measure =>
        have h1 := JP.out;have h2 := MI.out;rcases ch with _ | _
        ·simp; omega
        ·have := h1.2 rfl; simp; omega
      obtain ⟨b0, off, x, rfl, hb, hx, hc⟩ := (HD.below hst.bl BP).at (fun _ => rfl) (by decide) Nq;have HX := iD hx;have RB := HE x (List.mem_of_getElem? hx);have Px := BH x (List.mem_of_getElem? hx);obtain ⟨nm, kd, xa, xb, co⟩ := x;simp only at RB Px;have AL := iD RB; have Js := iD Px;have c0 : wr.cell? ⟨b0, off + j * 5, none⟩ = some (.string nm) := hc 0 _ rfl;have c1 : wr.cell? ⟨b0, off + j * 5 + 1, none⟩ = some (.int .i64 kd) := hc 1 _ rfl;have c2 : wr.cell? ⟨b0, off + j * 5 + 2, none⟩ = some (.int .i64 xa) := hc 2 _ rfl;have c3 : wr.cell? ⟨b0, off + j * 5 + 3, none⟩ = some (.int .i64 xb) := hc 3 _ rfl;have c4 : wr.cell? ⟨b0, off + j * 5 + 4, none⟩ = some (.int .i64 co) := hc 4 _ rfl;clear hc hx RB Px;go_upto_region 16 with (fail);clear c0 c1 c2 c3 c4 k1;have HK := iD (AJ.new wr 57 #[.string nm, .int .i64 kd, .int .i64 xa, .int .i64 xb, .int .i64 co])
      have BO := iD (hst.alloc (.cells #[.string nm, .int .i64 kd, .int .i64 xa, .int .i64 xb, .int .i64 co] 57));have Mm : go < wr.heap.size := hst.ge.2;generalize World.alloc _ _ = w2 at *;obtain ⟨bq, FQ⟩ := eX wr.heap.size;rw [← FQ] at HK ⊢;have IW : go < bq := by omega
      clear FQ hst Mm;obtain ⟨sb, MQ, sx, rfl, Py, Jm, Uj⟩ := (HS.below BO.bl CJ).at1 (k := j) (by omega);have CX : Hid (ui s j = (sx == 2)) := by unfold Hid ui; rw [List.getD_eq_getElem?_getD, Jm]; rfl
      clear Jm;have AW : j < n := by omega
      have e1 := HK.c1;have e2 := HK.c2;have e3 := HK.c3;have Cq := iD (vg kd);by_cases h2 : sx = 2; rotate_left
      ·have q2 : (sx != 2) = true := by simpa using h2
       have GG : Hid (ch = false → ∀ t, t < j + 1 → jk ds s out t) := fun h t ht => by
        rcases Nat.lt_succ_iff_lt_or_eq.1 ht with h3 | rfl
        ·exact Od h t h3
        ·intro x hx hc; rw [CX.out] at hc; exact absurd (by simpa using hc) h2
       clear h2 e1 e2 e3;refine fv (fun W' => W'.cell? ⟨sb, MQ + j, none⟩ = some (.int .i64 sx)) [] ?_ fun AA => ?_
       ·exact Uj
       try dsimp only at AA
       refine tk 0 46 (mf 24 1) AA ?_;refine tk 1 47 (mf 24 2) AA ?_;refine tk 2 48 (mf 24 3) AA ?_;refine tk 3 49 (mf 24 4) AA ?_;refine tk 4 50 (mf 24 5) AA ?_;refine tk 5 51 (mf 24 6) AA ?_;refine ts 6 52 (mf 24 7) AA ?_;refine ts 7 53 (mf 24 8) AA ?_;refine ts 8 54 (mf 24 9) AA ?_;refine ts 9 55 (mf 24 10) AA ?_;refine tk 10 56 (mf 24 11) AA ?_;refine tk 11 57 (mf 24 12) AA ?_;refine ts 12 58 (mf 24 13) AA ?_;refine ts 13 59 (mf 24 14) AA ?_;refine ts 14 60 (mf 24 15) AA ?_;refine ts 15 61 (mf 24 16) AA ?_;refine ts 16 62 (mf 24 17) AA ?_;refine ts 17 63 (mf 24 18) AA ?_;refine ts 18 64 (mf 24 19) AA ?_;refine ts 19 65 (mf 24 20) AA ?_;refine ts 20 66 (mf 24 21) AA ?_;refine ts 21 67 (mf 24 22) AA ?_;refine ts 22 68 (mf 24 23) AA ?_;refine tk 23 69 (mf 24 24) AA ?_;refine tK ?_;clear AA
       go_wp2_with fail
       go_roundg (nd - (j + 1))
       ·exact ⟨ch, j + 1, out, rfl, by go_num, by omega, rfl, BO.drew, NA, GG, (by have := JP.out; rw [MI.out] at this; exact this)⟩
       omega
      subst h2;rcases Eh : zV kd with _ | _
      ·have GG : Hid (ch = false → ∀ t, t < j + 1 → jk ds s out t) := fun h t ht => by
        rcases Nat.lt_succ_iff_lt_or_eq.1 ht with h3 | rfl
        ·exact Od h t h3
        ·intro x hx hc RS;rw [HX.out] at hx;injection hx with hx;subst hx;rw [Eh] at RS; cases RS
       rw [Eh] at Cq;clear Eh e2 e3;refine fv (fun W' => W'.cell? ⟨sb, MQ + j, none⟩ = some (.int .i64 2) ∧ W'.cell? ⟨bq, 1, none⟩ = some (.int .i64 kd)) [] ?_ fun AA => ?_
       ·exact ⟨Uj, e1⟩
       try dsimp only at AA
       refine tk 0 46 (mf 24 1) AA ?_;refine tk 1 47 (mf 24 2) AA ?_;refine tk 2 48 (mf 24 3) AA ?_;refine tk 3 49 (mf 24 4) AA ?_;refine tk 4 50 (mf 24 5) AA ?_;refine tk 5 51 (mf 24 6) AA ?_;refine tk 6 52 (mf 24 7) AA ?_;refine tk 7 53 (mf 24 8) AA ?_;refine tb 8 (mf 24 9) fun K hK => ?_
       (go_simp; refine (Cq _).mono ?_; rintro e w3 ⟨rfl, rfl⟩; go_simp)
       refine hK _ _ (fun _ => AA) fun p => (fun AA => ?_) (p rfl)
       clear p hK K;(try dsimp only at AA);refine tk 9 55 (mf 24 10) AA ?_;refine tk 10 56 (mf 24 11) AA ?_;refine tk 11 57 (mf 24 12) AA ?_;refine ts 12 58 (mf 24 13) AA ?_;refine ts 13 59 (mf 24 14) AA ?_;refine ts 14 60 (mf 24 15) AA ?_;refine ts 15 61 (mf 24 16) AA ?_;refine ts 16 62 (mf 24 17) AA ?_;refine ts 17 63 (mf 24 18) AA ?_;refine ts 18 64 (mf 24 19) AA ?_;refine ts 19 65 (mf 24 20) AA ?_;refine ts 20 66 (mf 24 21) AA ?_;refine ts 21 67 (mf 24 22) AA ?_;refine ts 22 68 (mf 24 23) AA ?_;refine tk 23 69 (mf 24 24) AA ?_;refine tK ?_;clear AA
       go_wp2_with fail
       go_roundg (nd - (j + 1))
       ·exact ⟨ch, j + 1, out, rfl, by go_num, by omega, rfl, BO.drew, NA, GG, (by have := JP.out; rw [MI.out] at this; exact this)⟩
       omega
      have AQ := iD Eh;have RB := AL Eh;have Px := Js Eh;rw [Eh] at Cq;clear Eh AL Js;obtain ⟨a, rfl⟩ := Int.eq_ofNat_of_zero_le RB.1.1;obtain ⟨b, rfl⟩ := Int.eq_ofNat_of_zero_le RB.2.1;have AE : a < i := by omega
      have AB : b < i := by omega
      obtain ⟨pv, AH, Mq, AZ⟩ := BO.cell AE;obtain ⟨qv, AG, TZ, AY⟩ := BO.cell AB;obtain ⟨p, Kt, Pz, _⟩ := NA.2 a AE;obtain ⟨q, IU, TP, _⟩ := NA.2 b AB;obtain rfl : pv = (p : Int) := by rw [AH] at Kt; exact Option.some.inj Kt
      obtain rfl : qv = (q : Int) := by rw [AG] at IU; exact Option.some.inj IU
      have AO := iD AH; have Tw := iD AG;have Oy : a ≠ b := by omega
      clear AH AG Kt IU RB Px;refine fv (fun W' => W'.cell? ⟨sb, MQ + j, none⟩ = some (.int .i64 2) ∧ W'.cell? ⟨bq, 1, none⟩ = some (.int .i64 kd) ∧ W'.cell? ⟨bq, 2, none⟩ = some (.int .i64 a) ∧ W'.cell? ⟨bq, 3, none⟩ = some (.int .i64 b) ∧ W'.cell? ⟨go, a, none⟩ = some (.int .i64 p) ∧ W'.cell? ⟨go, b, none⟩ = some (.int .i64 q)) [] ?_ fun AA => ?_
      ·exact ⟨Uj, e1, e2, e3, Mq, TZ⟩
      try dsimp only at AA
      refine tk 0 46 (mf 24 1) AA ?_;refine tk 1 47 (mf 24 2) AA ?_;refine tk 2 48 (mf 24 3) AA ?_;refine tk 3 49 (mf 24 4) AA ?_;refine tk 4 50 (mf 24 5) AA ?_;refine tk 5 51 (mf 24 6) AA ?_;refine tk 6 52 (mf 24 7) AA ?_;refine tk 7 53 (mf 24 8) AA ?_;refine tb 8 (mf 24 9) fun K hK => ?_
      (go_simp; refine (Cq _).mono ?_; rintro e w3 ⟨rfl, rfl⟩; go_simp)
      refine hK _ _ (fun _ => AA) fun p => (fun AA => ?_) (p rfl)
      clear p hK K;(try dsimp only at AA);refine tk 9 55 (mf 24 10) AA ?_;refine tk 10 56 (mf 24 11) AA ?_;refine tk 11 57 (mf 24 12) AA ?_;refine tk 12 58 (mf 24 13) AA ?_;refine tk 13 59 (mf 24 14) AA ?_;refine tk 14 60 (mf 24 15) AA ?_;refine tk 15 61 (mf 24 16) AA ?_;refine tk 16 62 (mf 24 17) AA ?_;refine tk 17 63 (mf 24 18) AA ?_;refine tk 18 64 (mf 24 19) AA ?_;refine tk 19 65 (mf 24 20) AA ?_;refine tk 20 66 (mf 24 21) AA ?_;refine tk 21 67 (mf 24 22) AA ?_;refine tk 22 68 (mf 24 23) AA ?_;refine tk 23 69 (mf 24 24) AA ?_;refine tK ?_;clear AA;by_cases LF : p = q
      ·subst LF
       have GG : Hid (ch = false → ∀ t, t < j + 1 → jk ds s out t) := fun h t ht => by
        rcases Nat.lt_succ_iff_lt_or_eq.1 ht with h3 | rfl
        ·exact Od h t h3
        ·intro x hx _ _;rw [HX.out] at hx;injection hx with hx;subst hx;simp only [Int.toNat_natCast];rw [AO.out, Tw.out]
       go_wp2_with fail
       go_roundg (nd - (j + 1))
       ·exact ⟨ch, j + 1, out, rfl, by go_num, by omega, rfl, BO.drew, NA, GG, (by have := JP.out; rw [MI.out] at this; exact this)⟩
       omega
      ·have AU : ((p : Int) == (q : Int)) = false := by simp; omega
       have FW := NA.put HX (by rw [CX.out]; rfl) AQ rfl rfl AE AB Oy AO Tw LF;go_upto_region 17 with (fail);refine fv (fun W' => W'.cell? ⟨bq, 2, none⟩ = some (.int .i64 a) ∧ W'.cell? ⟨bq, 3, none⟩ = some (.int .i64 b) ∧ W'.cell? ⟨go, a, none⟩ = some (.int .i64 p) ∧ W'.cell? ⟨go, b, none⟩ = some (.int .i64 q)) [] ?_ fun AA => ?_
       ·exact ⟨e2, e3, Mq, TZ⟩
       try dsimp only at AA
       refine tk 0 70 (mf 12 1) AA ?_;refine tk 1 71 (mf 12 2) AA ?_;refine tk 2 72 (mf 12 3) AA ?_;refine tk 3 73 (mf 12 4) AA ?_;refine tk 4 74 (mf 12 5) AA ?_;refine tk 5 75 (mf 12 6) AA ?_;refine tk 6 76 (mf 12 7) AA ?_;refine tk 7 77 (mf 12 8) AA ?_;refine tk 8 78 (mf 12 9) AA ?_;refine tk 9 79 (mf 12 10) AA ?_;refine tk 10 80 (mf 12 11) AA ?_;refine tk 11 12 (mf 12 12) AA ?_;refine tK ?_;clear AA;go_upto_region 18 with (fail)
       first | rw [show (if q < p then (q : Int) else (p : Int)) = ((min p q : Nat) : Int) by split <;> omega] | rw [show min (p : Int) (q : Int) = ((min p q : Nat) : Int) by omega]
       obtain ⟨m, hm⟩ := eX (min p q);rw [← hm] at FW ⊢;have Ka := iD FW;have Gp := iD ((BO.put AE (m : Int)).put AB (m : Int));have Nt : ¬ b = a := fun e => Oy e.symm
       clear FW hm;refine fv (fun W' => W'.cell? ⟨bq, 2, none⟩ = some (.int .i64 a) ∧ W'.cell? ⟨bq, 3, none⟩ = some (.int .i64 b)) [] ?_ fun AA => ?_
       ·exact ⟨e2, e3⟩
       try dsimp only at AA
       refine tk 0 81 (mf 12 1) AA ?_;refine tk 1 82 (mf 12 2) AA ?_;refine tk 2 83 (mf 12 3) AA ?_;refine tk 3 84 (mf 12 4) AA ?_;refine tk 4 85 (mf 12 5) AA ?_;refine tk 5 86 (mf 12 6) AA ?_;refine tk 6 87 (mf 12 7) AA ?_;refine tk 7 88 (mf 12 8) AA ?_;refine tk 8 89 (mf 12 9) AA ?_;refine tb 9 (mf 12 10) fun K hK => ?_
       go_simp
       refine hK _ _ (fun _ => ⟨(World.cell?_setCell_other _ _ _ _ (fun e => by injection e with e1; omega)).trans e2, (World.cell?_setCell_other _ _ _ _ (fun e => by injection e with e1; omega)).trans e3⟩) fun p => (fun AA => ?_) (p rfl)
       clear p hK K;(try dsimp only at AA);refine tk 10 90 (mf 12 11) AA ?_;refine tb 11 (mf 12 12) fun K hK => ?_
       go_simp
       refine hK _ _ (fun _ => ⟨(World.cell?_setCell_other _ _ _ _ (fun e => by injection e with e1; omega)).trans ((World.cell?_setCell_other _ _ _ _ (fun e => by injection e with e1; omega)).trans e2), (World.cell?_setCell_other _ _ _ _ (fun e => by injection e with e1; omega)).trans ((World.cell?_setCell_other _ _ _ _ (fun e => by injection e with e1; omega)).trans e3)⟩) fun p => (fun AA => ?_) (p rfl)
       clear p hK K;(try dsimp only at AA);refine tK ?_;clear AA
       go_wp2_with fail
       go_roundg (nd - (j + 1))
       ·exact ⟨true, j + 1, _, rfl, by go_num, by omega, rfl, Gp.drew.drew.drew, Ka.1, (fun h => by cases h), ⟨by have := JP.1; have := Ka.2; have := MI.out; omega, fun _ => by have := JP.1; have := Ka.2; have := MI.out; omega⟩⟩
       omega
variable {ds : List Dv} {x : Dv}
section
open Go.RowKit
def ji (w : World) (nn : Nat) (er : Int) (ds : List Dv) (s : List Int) (e : Ending) (w' : World) : Prop :=
 Hid (Below w.heap.size w w') ∧ ((er ≠ 0 ∧ e = .returned (.tuple #[.slice none 0 0, .int .i64 er])) ∨ (er = 0 ∧ ∃ (A : Option Addr) (out : List Int), e = .returned (.tuple #[.slice A nn nn, .int .i64 0]) ∧ Hid (zL w' w.heap.size A nn nn out) ∧ Hid (wJ nn ds s out)))
def df (w : World) (N : Array Value) (go nn nd : Nat) (A : Option Addr) (P : List Int) (ds : List Dv) (s : List Int) (gk : Nat) (iv : Value) (wr : World) : Prop := ∃ (j : Nat) (out : List Int), iv = .int .i64 j ∧ j ≤ nd ∧ gk = nd - j ∧ Hid (vF w N go nn out wr) ∧ Hid (Sl wr go 1 A nn nn (zE P)) ∧ Hid (∀ (t : Nat) (q : Int), P[t]? = some q → out[t]? = some (zK P ds s j q))
def ey (w : World) (N : Array Value) (go nn bq : Nat) (nm : ByteArray) (kd a xb co : Int) (A : Option Addr) (P : List Int) (f f' : Int → Int) (gk : Nat) (iv : Value) (wr : World) : Prop := ∃ (v : Nat) (out : List Int), iv = .int .i64 v ∧ v ≤ nn ∧ gk = nn - v ∧ Hid (vF w N go nn out wr) ∧ Hid (AJ wr bq 57 #[.string nm, .int .i64 kd, .int .i64 a, .int .i64 xb, .int .i64 co]) ∧ Hid (Sl wr go 1 A nn nn (zE P)) ∧ Hid (∀ (t : Nat) (q : Int), P[t]? = some q → out[t]? = some (if t < v then f' q else f q))
theorem iO {parts s : List Int} {j : Nat} {p : Int} (hx : ds[j]? = some x) (hs : s[j]? = some 2) (hk : x.kind = 4) (hp : parts[x.a.toNat]? = some p) : bits BinOp.or IntKind.i64 (zK parts ds s j p) 2 = zK parts ds s (j + 1) p := by
 have h := qK hx hs hk hp;rcases vn (parts := parts) (ds := ds) (s := s) (j := j) (p := p) with e | e | e | e
 ·rw [h.1 e, e] <;> first | rfl | kernel_rfl
 ·rw [h.2.1 e, e] <;> first | rfl | kernel_rfl
 ·rw [h.2.2.1 e, e] <;> first | rfl | kernel_rfl
 ·rw [h.2.2.2 e, e] <;> first | rfl | kernel_rfl
theorem gg {parts s : List Int} {j : Nat} {p : Int} (hx : ds[j]? = some x) (hs : s[j]? = some 2) (hk : yg x.kind) (hp : parts[x.a.toNat]? = some p) : bits BinOp.or IntKind.i64 (zK parts ds s j p) 1 = zK parts ds s (j + 1) p := by
 have h := pW hx hs hk hp;rcases vn (parts := parts) (ds := ds) (s := s) (j := j) (p := p) with e | e | e | e
 ·rw [h.1 e, e] <;> first | rfl | kernel_rfl
 ·rw [h.2.1 e, e] <;> first | rfl | kernel_rfl
 ·rw [h.2.2.1 e, e] <;> first | rfl | kernel_rfl
 ·rw [h.2.2.2 e, e] <;> first | rfl | kernel_rfl
theorem vQ (An Ad As : Option Addr) (nn cn nd cd n c Bn Bd Bs : Nat) (ns : List Nd) (ds : List Dv) (s : List Int) (w : World) (hn : Sl w Bn 3 An nn cn (ns.flatMap Nd.cells)) (hd : Sl w Bd 5 Ad nd cd (ds.flatMap Dv.cells)) (hs : Sl w Bs 1 As n c (zE s)) (CS : Bn ≤ w.heap.size) (BP : Bd ≤ w.heap.size) (CJ : Bs ≤ w.heap.size)
 (Bg : FP ns) (BU : Fv ds) (Bq : nn ≤ 10000) (Ae : zQ ns ds s = 0 → nd ≤ n ∧ yf nn ds ∧ ∀ x ∈ ds, zV x.kind = true → x.b ≠ x.a) (hA : zQ ns ds s = 0 → Im nn ds ∧ ∀ x ∈ ds, 1 ≤ x.kind ∧ x.kind ≤ 6) :
 Calls Tryz.prog 25 #[.agg #[.slice An nn cn, .slice Ad nd cd], .slice As n c] w (ji w nn (zQ ns ds s) ds s) := by
 have FL := iD (hd.len (fun _ => rfl) (by decide));obtain ⟨TY, JU⟩ := hd.le;obtain ⟨Af, hsm⟩ := hs.le;have Cm := iD (uq An Ad As nn cn nd cd n c Bn Bd Bs ns ds s (w.alloc (.cells #[.slice An nn cn, .slice Ad nd cd] 30)) (hn.alloc CS _) (hd.alloc BP _) (hs.alloc CJ _) (by simp; omega) (by simp; omega) (by simp; omega) Bg BU Bq Ae);have HD := iD hd; have HS := iD hs; have Ik := iD Ae; have AP := iD hA;clear hn hd hs Bg BU Ae hA;have Gq : Hid (uJ w #[.slice An nn cn, .slice Ad nd cd] (w.alloc (.cells #[.slice An nn cn, .slice Ad nd cd] 30))) := ⟨AJ.new _ _ _, (Below.refl _ _).alloc lR _⟩;generalize zQ ns ds s = er at *
 go_enter Tryz.func25, Tryz.ntmps25
 go_wp2_with fail
 refine Cm.mono ?_;rintro e w1 ⟨AV, ⟨h0, rfl⟩ | ⟨rfl, A, P, rfl, hO, hP⟩⟩
 ·have h0' : (er != 0) = true := by simpa using h0
  have H0 := iD h0; clear h0;have Er := iD (Gq.later AV)
  go_wp2_with fail
  go_ret2;exact ⟨Er.bl, .inl ⟨H0, rfl⟩⟩
 have Oh : nd ≤ n := (Ik rfl).1;have HA := iD (AP rfl).1; have Al := iD (AP rfl).2;have Er := iD (Gq.later AV);have Sa := iD hP.out;have OH := iD hO.len;have k0 := Er.bx.c0;have FX := vf nn (by omega) w1
 have SG : Hid (vF w #[.slice An nn cn, .slice Ad nd cd] w1.heap.size nn (List.replicate nn 0) (w1.alloc (.cells (zE (List.replicate nn 0)).toArray 3))) :=
  ⟨Er.bx.alloc _, tZ Er.bx.lt (by omega), (Er.alloc _).bl⟩
 have AK := iD (hO.sl.alloc lR (.cells (zE (List.replicate nn 0)).toArray 3));clear Er Gq Cm AV hO hP Ik AP
 go_wp2_with fail
 clear FX k0;generalize World.alloc _ _ = W at *;obtain ⟨go, hgo⟩ := eX w1.heap.size;rw [← hgo] at SG AK ⊢;clear hgo
 go_loopg [9] nd (df w #[.slice An nn cn, .slice Ad nd cd] go nn nd A P ds s)
 case atStart => exact ⟨0, _, rfl, Nat.zero_le _, rfl, SG, AK, fun t q hq => by
  have ht : t < nn := by have := (List.getElem?_eq_some_iff.1 hq).1; rw [OH.out] at this; exact this
  rw [List.getElem?_replicate, if_pos ht, pV]⟩
 case round =>
  clear SG AK;obtain ⟨j, out, rfl, hj, rfl, hst, Kr, hf⟩ := hrel;have k1 := hst.bx.c1;by_cases Nq : j < nd; rotate_left
  ·obtain rfl : j = nd := by omega
   have IV : decide (j < j) = false := by simp
   go_wp2_with fail
   go_ret2;refine ⟨hst.bl, .inr ⟨rfl, _, out, rfl, hst.ob.mono (by omega), hst.ob.len, fun v hv => ?_⟩⟩;obtain ⟨q, h1, _⟩ := Sa.2 v hv;rw [hf.out v q h1, ← mL Sa.out HA.out hv h1, FL.out]
  obtain ⟨b0, off, x, rfl, hb, hx, hc⟩ := (HD.below hst.bl BP).at (fun _ => rfl) (by decide) Nq;have HX := iD hx;have Ms := HA x (List.mem_of_getElem? hx);have Ag := Al x (List.mem_of_getElem? hx);obtain ⟨nm, kd, xa, xb, co⟩ := x;simp only at Ms Ag;obtain ⟨a, rfl⟩ := Int.eq_ofNat_of_zero_le Ms.1;have Iw : a < nn := by omega
  have c0 : wr.cell? ⟨b0, off + j * 5, none⟩ = some (.string nm) := hc 0 _ rfl;have c1 : wr.cell? ⟨b0, off + j * 5 + 1, none⟩ = some (.int .i64 kd) := hc 1 _ rfl;have c2 : wr.cell? ⟨b0, off + j * 5 + 2, none⟩ = some (.int .i64 a) := hc 2 _ rfl;have c3 : wr.cell? ⟨b0, off + j * 5 + 3, none⟩ = some (.int .i64 xb) := hc 3 _ rfl;have c4 : wr.cell? ⟨b0, off + j * 5 + 4, none⟩ = some (.int .i64 co) := hc 4 _ rfl;clear hc hx Ms;go_upto_region 9 with (fail);clear c0 c1 c2 c3 c4 k1;have HK := iD (AJ.new wr 57 #[.string nm, .int .i64 kd, .int .i64 a, .int .i64 xb, .int .i64 co]);have BO := iD (hst.alloc (.cells #[.string nm, .int .i64 kd, .int .i64 a, .int .i64 xb, .int .i64 co] 57));have Kb := iD (Kr.alloc (Nat.le_of_lt hst.ge.2) (.cells #[.string nm, .int .i64 kd, .int .i64 a, .int .i64 xb, .int .i64 co] 57));have Mm : go < wr.heap.size := hst.ge.2;generalize World.alloc _ _ = w2 at *
  obtain ⟨bq, FQ⟩ := eX wr.heap.size;rw [← FQ] at HK ⊢;have IW : go < bq := by omega
  clear FQ hst Kr Mm;obtain ⟨sb, MQ, sx, rfl, Py, Jm, Uj⟩ := (HS.below BO.bl CJ).at1 (k := j) (by omega);have CX := iD Jm; clear Jm;have Ap : j < n := by omega
  have e1 := HK.c1;have Cq := iD (vg kd);by_cases h2 : sx = 2; rotate_left
  ·have q2 : (sx != 2) = true := by simpa using h2
   have Kj : Hid (∀ (t : Nat) (q : Int), P[t]? = some q → out[t]? = some (zK P ds s (j + 1) q)) := fun t q hq => by
    rw [hf.out t q hq, xf HX.out (fun K _ h => h2 (by have := h.1; rw [CX.out] at this; exact Option.some.inj this))]
   clear h2
   go_wp2_with fail
   go_roundg (nd - (j + 1))
   ·exact ⟨j + 1, out, by go_num, by omega, rfl, BO, Kb, Kj⟩
   omega
  subst h2;rcases Eh : zV kd with _ | _; rotate_left
  ·have Kj : Hid (∀ (t : Nat) (q : Int), P[t]? = some q → out[t]? = some (zK P ds s (j + 1) q)) := fun t q hq => by
    rw [hf.out t q hq, xf HX.out (fun K hK h => by
     have h3 := h.2.1;have h4 : 1 ≤ kd ∧ kd ≤ 3 := by simpa [zV] using Eh
     rcases hK with rfl | rfl
     ·unfold yg at h3; simp only at h3; omega
     ·simp only at h3; omega)]
   rw [Eh] at Cq;clear Eh
   go_wp2_with fail
   refine (Cq _).mono ?_;rintro e w3 ⟨rfl, rfl⟩
   go_wp2_with fail
   go_roundg (nd - (j + 1))
   ·exact ⟨j + 1, out, by go_num, by omega, rfl, BO, Kb, Kj⟩
   omega
  have Ah : 4 ≤ kd := by
   have h5 : ¬ (1 ≤ kd ∧ kd ≤ 3) := by
    intro h6;have h7 : zV kd = true := by simp [zV]; omega
    rw [h7] at Eh;cases Eh
   omega
  rw [Eh] at Cq;clear Eh;obtain ⟨pb, Cn, pa, rfl, _, AW, _⟩ := Kb.at1 (k := a) Iw;have Ig := iD AW; clear AW;by_cases h4 : kd = 4
  ·subst h4
   go_wp2_with fail
   refine (Cq _).mono ?_;rintro e w3 ⟨rfl, rfl⟩
   go_wp2_with fail
   go_loopg [12] nn (ey w #[.slice An nn cn, .slice (some ⟨b0, off, none⟩) nd cd] go nn bq nm 4 a xb co (some ⟨pb, Cn, none⟩) P (zK P ds s j) (zK P ds s (j + 1)))
   case atStart => exact ⟨0, out, rfl, Nat.zero_le _, rfl, BO, HK, Kb, fun v q hq => by rw [if_neg (by omega)]; exact hf v q hq⟩
   case round =>
    clear BO HK Kb e1;obtain ⟨v, out', rfl, hv, rfl, hst, hk, Kr, Oo⟩ := hrel;by_cases Mh : v < nn; rotate_left
    ·obtain rfl : v = nn := by omega
     have Ac : decide (v < v) = false := by simp
     have Kj : Hid (∀ (t : Nat) (q : Int), P[t]? = some q → out'[t]? = some (zK P ds s (j + 1) q)) := fun t q hq => by
      have := Oo t q hq
      rwa [if_pos (by have := (List.getElem?_eq_some_iff.1 hq).1; rw [OH.out] at this; exact this)] at this
     go_wp2_with fail
     go_roundg (nd - (j + 1))
     ·exact ⟨j + 1, out', by go_num, by omega, rfl, hst, Kr, Kj⟩
     omega
    obtain ⟨UR, JK, q, Cc, _, hq, hcv⟩ := Kr.at1 (k := v) Mh;injection Cc with Cc;injection Cc with h3 h4;subst h3 h4;have HQ := iD hq; clear hq;obtain ⟨UR, JK, pa', Cc, _, hpa', Mq⟩ := Kr.at1 (k := a) Iw;injection Cc with Cc;injection Cc with h3 h4;subst h3 h4;obtain rfl : pa = pa' := by rw [Ig.out] at hpa'; exact Option.some.inj hpa'
    clear hpa';have e2 := hk.c2;go_upto_region 16 with (fail);refine fv (fun W' => W'.cell? ⟨pb, Cn + v, none⟩ = some (.int .i64 q) ∧ W'.cell? ⟨bq, 2, none⟩ = some (.int .i64 a) ∧ W'.cell? ⟨pb, Cn + a, none⟩ = some (.int .i64 pa)) [] ?_ fun AA => ?_
    ·exact ⟨hcv, e2, Mq⟩
    try dsimp only at AA
    refine tk 0 57 (mf 10 1) AA ?_;refine tk 1 58 (mf 10 2) AA ?_;refine tk 2 59 (mf 10 3) AA ?_;refine tk 3 60 (mf 10 4) AA ?_;refine tk 4 61 (mf 10 5) AA ?_;refine tk 5 62 (mf 10 6) AA ?_;refine tk 6 63 (mf 10 7) AA ?_;refine tk 7 64 (mf 10 8) AA ?_;refine tk 8 65 (mf 10 9) AA ?_;refine tk 9 66 (mf 10 10) AA ?_;refine tK ?_;clear AA hcv Mq e2;have Kc := iD (Oo v q HQ);rw [if_neg (by omega)] at Kc;by_cases Oa : q = pa; rotate_left
    ·have Ab : (q == pa) = false := by simpa using Oa
     have Hu : Hid (∀ (t : Nat) (r : Int), P[t]? = some r → out'[t]? = some (if t < v + 1 then zK P ds s (j + 1) r else zK P ds s j r)) := fun t r hr => by
      by_cases OX : t = v
      ·subst OX;rw [HQ.out] at hr;injection hr with hr;subst hr;rw [if_pos (by omega), Kc.out, xf HX.out (fun K _ h => Oa (by have := h.2.2; simp only [Int.toNat_natCast] at this; rw [Ig.out] at this; exact (Option.some.inj this).symm))]
      ·rw [Oo.out t r hr];by_cases h5 : t < v
       ·rw [if_pos h5, if_pos (by omega)]
       ·rw [if_neg h5, if_neg (by omega)]
     clear Oa
     go_wp2_with fail
     go_roundg (nn - (v + 1))
     ·exact ⟨v + 1, out', by go_num, by omega, rfl, hst.drew, hk, Kr, Hu⟩
     omega
    ·subst Oa;obtain ⟨x0, OU, hcell, Aj⟩ := hst.cell Mh;obtain rfl : zK P ds s j q = x0 := by rw [Kc.out] at OU; exact Option.some.inj OU
     have Oc : bits BinOp.or IntKind.i64 (zK P ds s j q) 2 = zK P ds s (j + 1) q := iO HX CX rfl Ig.out;have Iz := iD hst.ob.len;have Ka := iD (hst.put Mh (zK P ds s (j + 1) q));have Ai : go < bq := IW;have EP : Hid (AJ (wr.setCell ⟨go, v, none⟩ (.int .i64 (zK P ds s (j + 1) q))) bq 57 #[.string nm, .int .i64 4, .int .i64 a, .int .i64 xb, .int .i64 co]) := hk.far (by simp; omega) _;have SI : Hid (Sl (wr.setCell ⟨go, v, none⟩ (.int .i64 (zK P ds s (j + 1) q))) go 1 (some ⟨pb, Cn, none⟩) nn nn (zE P)) := Kr.setCell lR _
     have Hu : Hid (∀ (t : Nat) (r : Int), P[t]? = some r → (out'.set v (zK P ds s (j + 1) q))[t]? = some (if t < v + 1 then zK P ds s (j + 1) r else zK P ds s j r)) := fun t r hr => by
      rw [List.getElem?_set];by_cases OX : v = t
      ·subst OX;rw [HQ.out] at hr;injection hr with hr;subst hr;rw [if_pos rfl, if_pos (by rw [Iz.out]; exact Mh), if_pos (by omega)]
      ·rw [if_neg OX, Oo.out t r hr];by_cases h5 : t < v
       ·rw [if_pos h5, if_pos (by omega)]
       ·rw [if_neg h5, if_neg (by omega)]
     clear OU Kc;generalize zK P ds s (j + 1) q = b1 at *;generalize zK P ds s j q = b2 at *
     go_wp2_with fail
     go_roundg (nn - (v + 1))
     ·exact ⟨v + 1, _, by go_num, by omega, rfl, Ka.drew, EP, SI, Hu⟩
     omega
  ·have q4 : (kd == 4) = false := by simpa using h4
   have SV : Hid (yg kd) := by unfold Hid yg; omega
   go_wp2_with fail
   refine (Cq _).mono ?_;rintro e w3 ⟨rfl, rfl⟩
   go_wp2_with fail
   go_loopg [12] nn (ey w #[.slice An nn cn, .slice (some ⟨b0, off, none⟩) nd cd] go nn bq nm kd a xb co (some ⟨pb, Cn, none⟩) P (zK P ds s j) (zK P ds s (j + 1)))
   case atStart => exact ⟨0, out, rfl, Nat.zero_le _, rfl, BO, HK, Kb, fun v q hq => by rw [if_neg (by omega)]; exact hf v q hq⟩
   case round =>
    clear BO HK Kb e1;obtain ⟨v, out', rfl, hv, rfl, hst, hk, Kr, Oo⟩ := hrel;by_cases Mh : v < nn; rotate_left
    ·obtain rfl : v = nn := by omega
     have Ac : decide (v < v) = false := by simp
     have Kj : Hid (∀ (t : Nat) (q : Int), P[t]? = some q → out'[t]? = some (zK P ds s (j + 1) q)) := fun t q hq => by
      have := Oo t q hq
      rwa [if_pos (by have := (List.getElem?_eq_some_iff.1 hq).1; rw [OH.out] at this; exact this)] at this
     go_wp2_with fail
     go_roundg (nd - (j + 1))
     ·exact ⟨j + 1, out', by go_num, by omega, rfl, hst, Kr, Kj⟩
     omega
    obtain ⟨UR, JK, q, Cc, _, hq, hcv⟩ := Kr.at1 (k := v) Mh;injection Cc with Cc;injection Cc with h3 h4;subst h3 h4;have HQ := iD hq; clear hq;obtain ⟨UR, JK, pa', Cc, _, hpa', Mq⟩ := Kr.at1 (k := a) Iw;injection Cc with Cc;injection Cc with h3 h4;subst h3 h4;obtain rfl : pa = pa' := by rw [Ig.out] at hpa'; exact Option.some.inj hpa'
    clear hpa';have e2 := hk.c2;go_upto_region 16 with (fail);refine fv (fun W' => W'.cell? ⟨pb, Cn + v, none⟩ = some (.int .i64 q) ∧ W'.cell? ⟨bq, 2, none⟩ = some (.int .i64 a) ∧ W'.cell? ⟨pb, Cn + a, none⟩ = some (.int .i64 pa)) [] ?_ fun AA => ?_
    ·exact ⟨hcv, e2, Mq⟩
    try dsimp only at AA
    refine tk 0 57 (mf 10 1) AA ?_;refine tk 1 58 (mf 10 2) AA ?_;refine tk 2 59 (mf 10 3) AA ?_;refine tk 3 60 (mf 10 4) AA ?_;refine tk 4 61 (mf 10 5) AA ?_;refine tk 5 62 (mf 10 6) AA ?_;refine tk 6 63 (mf 10 7) AA ?_;refine tk 7 64 (mf 10 8) AA ?_;refine tk 8 65 (mf 10 9) AA ?_;refine tk 9 66 (mf 10 10) AA ?_;refine tK ?_;clear AA hcv Mq e2;have Kc := iD (Oo v q HQ);rw [if_neg (by omega)] at Kc;by_cases Oa : q = pa; rotate_left
    ·have Ab : (q == pa) = false := by simpa using Oa
     have Hu : Hid (∀ (t : Nat) (r : Int), P[t]? = some r → out'[t]? = some (if t < v + 1 then zK P ds s (j + 1) r else zK P ds s j r)) := fun t r hr => by
      by_cases OX : t = v
      ·subst OX;rw [HQ.out] at hr;injection hr with hr;subst hr;rw [if_pos (by omega), Kc.out, xf HX.out (fun K _ h => Oa (by have := h.2.2; simp only [Int.toNat_natCast] at this; rw [Ig.out] at this; exact (Option.some.inj this).symm))]
      ·rw [Oo.out t r hr];by_cases h5 : t < v
       ·rw [if_pos h5, if_pos (by omega)]
       ·rw [if_neg h5, if_neg (by omega)]
     clear Oa
     go_wp2_with fail
     go_roundg (nn - (v + 1))
     ·exact ⟨v + 1, out', by go_num, by omega, rfl, hst.drew, hk, Kr, Hu⟩
     omega
    ·subst Oa;obtain ⟨x0, OU, hcell, Aj⟩ := hst.cell Mh;obtain rfl : zK P ds s j q = x0 := by rw [Kc.out] at OU; exact Option.some.inj OU
     have Oc : bits BinOp.or IntKind.i64 (zK P ds s j q) 1 = zK P ds s (j + 1) q := gg HX CX SV Ig.out;have Iz := iD hst.ob.len;have Ka := iD (hst.put Mh (zK P ds s (j + 1) q));have Ai : go < bq := IW;have EP : Hid (AJ (wr.setCell ⟨go, v, none⟩ (.int .i64 (zK P ds s (j + 1) q))) bq 57 #[.string nm, .int .i64 kd, .int .i64 a, .int .i64 xb, .int .i64 co]) := hk.far (by simp; omega) _;have SI : Hid (Sl (wr.setCell ⟨go, v, none⟩ (.int .i64 (zK P ds s (j + 1) q))) go 1 (some ⟨pb, Cn, none⟩) nn nn (zE P)) := Kr.setCell lR _
     have Hu : Hid (∀ (t : Nat) (r : Int), P[t]? = some r → (out'.set v (zK P ds s (j + 1) q))[t]? = some (if t < v + 1 then zK P ds s (j + 1) r else zK P ds s j r)) := fun t r hr => by
      rw [List.getElem?_set];by_cases OX : v = t
      ·subst OX;rw [HQ.out] at hr;injection hr with hr;subst hr;rw [if_pos rfl, if_pos (by rw [Iz.out]; exact Mh), if_pos (by omega)]
      ·rw [if_neg OX, Oo.out t r hr];by_cases h5 : t < v
       ·rw [if_pos h5, if_pos (by omega)]
       ·rw [if_neg h5, if_neg (by omega)]
     clear OU Kc;generalize zK P ds s (j + 1) q = b1 at *;generalize zK P ds s j q = b2 at *
     go_wp2_with fail
     go_roundg (nn - (v + 1))
     ·exact ⟨v + 1, _, by go_num, by omega, rfl, Ka.drew, EP, SI, Hu⟩
     omega
end
section
open Go.RowKit
def HaR (w : World) (l : List Int) (x : Int) (n gk : Nat) (iv : Value) (wr : World) : Prop := ∃ i : Nat, iv = .int .i64 i ∧ i ≤ n ∧ gk = n - i ∧ wr = w ∧ Hid (∀ k, k < i → l[k]? ≠ some x)
theorem nB (A : Option Addr) (n c : Nat) (l : List Int) (x : Int) (w : World) (hs : BI w 1 A n c (zE l)) :
 Calls Tryz.prog 64 #[.slice A n c, .int .i64 x] w fun e w' => e = .returned (.bool (decide (x ∈ l))) ∧ w = w' := by
 have EH := hs.le;have HS := iD hs;have Cb := iD (hs.len (fun _ => rfl) (by decide));clear hs
 go_enter Tryz.func64, Tryz.ntmps64
 go_wp2_with fail
 go_loopg [5] n (HaR w l x n)
 case atStart => exact ⟨0, rfl, Nat.zero_le _, rfl, rfl, fun k hk => absurd hk (by omega)⟩
 case round =>
  obtain ⟨i, rfl, hi, rfl, rfl, hno⟩ := hrel;by_cases hlt : i < n
  ·obtain ⟨b, off, y, rfl, hb, hy, hc⟩ := HS.at1 hlt;have HY := iD hy;clear hy;by_cases JO : y = x
   ·have q : (y == x) = true := by simpa using JO
    have HR : Hid (decide (x ∈ l) = true) := by
     unfold Hid;rw [decide_eq_true_eq, ← JO];exact List.mem_of_getElem? HY.out
    clear JO
    go_wp2_with fail
    go_ret;exact ⟨zF HR.symm, rfl⟩
   ·have q : (y == x) = false := by simpa using JO
    have HN : Hid (∀ k, k < i + 1 → l[k]? ≠ some x) := fun k hk e => by
     rcases Nat.lt_succ_iff_lt_or_eq.1 hk with h | rfl
     ·exact hno k h e
     ·rw [HY.out] at e; injection e with e; exact JO e
    clear JO
    go_wp2_with fail
    go_roundg (n - (i + 1))
    ·exact ⟨i + 1, by go_num, by omega, rfl, rfl, HN⟩
    omega
  ·obtain rfl : i = n := by omega
   have Cw : decide (i < i) = false := by simp
   have HR : Hid (decide (x ∈ l) = false) := by
    unfold Hid;rw [decide_eq_false_iff_not];intro hm;obtain ⟨k, hk⟩ := List.mem_iff_getElem?.1 hm;exact hno k (by have := (List.getElem?_eq_some_iff.1 hk).1; rw [Cb.out] at this; exact this) hk
   go_wp2_with fail
   go_ret;exact ⟨zF HR.symm, rfl⟩
def dU (w : World) (nb : Nat) (V : Array Value) (n gk : Nat) (kv iv : Value) (wr : World) : Prop := ∃ (i : Nat) (k : Int), iv = .int .i64 i ∧ kv = .int .i64 k ∧ i ≤ n ∧ gk = n - i ∧ Hid (bW w wr) ∧ Hid (AJ wr nb 30 V)
theorem jy (An Ad A : Option Addr) (nn cn nd cd n c : Nat) (ns : List Nd) (l : List Int) (w : World) (hn : BI w 3 An nn cn (ns.flatMap Nd.cells)) (hs : BI w 1 A n c (zE l)) (hl : ∀ x ∈ l, 0 ≤ x ∧ x < nn) :
 Calls Tryz.prog 121 #[.agg #[.slice An nn cn, .slice Ad nd cd], .slice A n c] w fun e w' => (∃ k : Int, e = .returned (.int .i64 k)) ∧ bW w w' := by
 have EH := hs.le;have Bq := hn.le;have HS := iD hs;have HN := iD hn;have HL := iD hl;clear hs hn hl
 go_enter Tryz.func121, Tryz.ntmps121
 go_upto_region 1 with (fail);have HB := iD (AJ.new w 30 #[.slice An nn cn, .slice Ad nd cd]);have HW : Hid (Below w.heap.size w (w.alloc (.cells #[.slice An nn cn, .slice Ad nd cd] 30))) := (Below.refl _ _).alloc lR _;generalize World.alloc _ _ = w1 at *;obtain ⟨nb, CF⟩ := eX w.heap.size;rw [← CF] at HB ⊢;clear CF
 go_wp2_with fail
 go_loopg [5, 6] n (dU w nb #[.slice An nn cn, .slice Ad nd cd] n)
 case atStart => exact ⟨0, 0, rfl, rfl, Nat.zero_le _, rfl, HW, HB⟩
 case round =>
  clear HB HW;obtain ⟨i, k, rfl, rfl, hi, rfl, AU, Du⟩ := hrel;by_cases hlt : i < n
  ·obtain ⟨b, off, y, rfl, hb, hy, hc⟩ := (HS.below AU lR).at1 hlt;have AQ := HL y (List.mem_of_getElem? hy);obtain ⟨v, rfl⟩ := Int.eq_ofNat_of_zero_le AQ.1;have hv : v < nn := by omega
   obtain ⟨b1, MR, z, rfl, AV, hz, LK⟩ := (HN.below AU lR).at (fun _ => rfl) (by decide) hv;obtain ⟨Dm, cu, Bi⟩ := z;have c1 : wr.cell? ⟨b1, MR + v * 3 + 1, none⟩ = some (.int .i64 cu) := LK 1 _ rfl;have k0 := Du.c0;clear LK hz hy AQ;go_upto_region 5 with (fail);refine fv (fun W' => W'.cell? ⟨nb, 0, none⟩ = some (.slice (some ⟨b1, MR, none⟩) nn cn) ∧ W'.cell? ⟨b, off + i, none⟩ = some (.int .i64 (v : Nat)) ∧ W'.cell? ⟨b1, MR + v * 3 + 1, none⟩ = some (.int .i64 cu)) [] ?_ fun AA => ?_
   ·exact ⟨k0, hc, c1⟩
   try dsimp only at AA
   refine tk 0 13 (mf 12 1) AA ?_;refine tk 1 14 (mf 12 2) AA ?_;refine tk 2 15 (mf 12 3) AA ?_;refine tk 3 16 (mf 12 4) AA ?_;refine tk 4 17 (mf 12 5) AA ?_;refine tk 5 18 (mf 12 6) AA ?_;refine tk 6 19 (mf 12 7) AA ?_;refine tk 7 20 (mf 12 8) AA ?_;refine tk 8 21 (mf 12 9) AA ?_;refine tk 9 22 (mf 12 10) AA ?_;refine tk 10 23 (mf 12 11) AA ?_;refine tk 11 5 (mf 12 12) AA ?_;refine tK ?_;clear AA
   go_wp2_with fail
   go_roundg (n - (i + 1))
   ·exact ⟨i + 1, _, by go_num, rfl, by omega, rfl, AU.drew, Du⟩
   omega
  ·obtain rfl : i = n := by omega
   have Cw : decide (i < i) = false := by simp
   go_wp2_with fail
   go_ret;exact ⟨⟨_, rfl⟩, AU⟩
end
section
open Go.RowKit
attribute [local go_sem ↓] Go.wp_at_zero Go.wp_at_succ
def xN (k : Nat) : List UInt8 := [[], [76], [81], [68], [69], [83], [71]].getD k []
def fS (w0 : World) (g : Nat) (AY : Int) (An : Option Addr) (nn cn : Nat) (ns : List Nd) (nd : Nat) (ds : List Dv) (kind : Nat) (a b : Int) (e : Ending) (w' : World) : Prop :=
 e = .returned (.tuple #[]) ∧ ∃ (Ad' : Option Addr) (nd' cd' : Nat) (ds' : List Dv), yF w0 g AY An nn cn ns Ad' nd' cd' ds' w' ∧ (AY ≤ nd → nd' = nd ∧ ds' = ds) ∧ (nd < AY → nd' = nd + 1 ∧ ∃ comp : Int, 0 ≤ comp ∧ comp ≤ 2 ∧ ds' = ds ++ [⟨Ea (Dm (xN kind) nd), kind, a, b, comp⟩])
def lk (w0 : World) (g : Nat) (AY : Int) (An : Option Addr) (nn cn : Nat) (ns : List Nd) (Ad : Option Addr) (nd cd : Nat) (ds : List Dv) (kind : Nat) (a b : Int) (s9 : Value) (wc : World) : Prop :=
 ∃ b9 : Nat, s9 = .pointer (some ⟨b9, 0, none⟩) ∧ yF w0 g AY An nn cn ns Ad nd cd ds wc ∧ AJ wc b9 57 #[.string (Ea (Dm (xN kind) nd)), .int .i64 kind, .int .i64 a, .int .i64 b, .int .i64 0] ∧ w0.heap.size + 4 ≤ b9 ∧ (∀ q, (Value.slice An nn cn).ownBlock = some q → q ≠ b9) ∧ (∀ q, (Value.slice Ad nd cd).ownBlock = some q → q ≠ b9)
def mS (w0 : World) (g : Nat) (AY : Int) (An : Option Addr) (nn cn : Nat) (ns : List Nd) (Ad : Option Addr) (nd cd : Nat) (ds : List Dv) (w W : World) : Prop := yF w0 g AY An nn cn ns Ad nd cd ds W ∧ w.heap.size ≤ W.heap.size
def jm (w0 : World) (g : Nat) (AY : Int) (An : Option Addr) (nn cn : Nat) (ns : List Nd) (Ad : Option Addr) (nd cd : Nat) (ds : List Dv) (w : World) (LT : ByteArray) (kind t : Nat) (W : World) : Prop := mS w0 g AY An nn cn ns Ad nd cd ds w W ∧ W.cell? ⟨t, kind, none⟩ = some (.string LT)
def fT (w0 : World) (g : Nat) (AY : Int) (An : Option Addr) (nn cn : Nat) (ns : List Nd) (Ad : Option Addr) (nd cd : Nat) (ds : List Dv) (w : World) (LT : ByteArray) (kind t q : Nat) (W : World) : Prop := jm w0 g AY An nn cn ns Ad nd cd ds w LT kind t W ∧ AJ W q 57 #[.string ⟨#[]⟩, .int .i64 0, .int .i64 0, .int .i64 0, .int .i64 0]
section
variable {w0 w W W' : World} {g : Nat} {AY : Int} {An Ad : Option Addr} {nn cn nd cd kind t : Nat} {ns : List Nd} {ds : List Dv} {LT : ByteArray}
theorem tE (h : mS w0 g AY An nn cn ns Ad nd cd ds w W) (o : Obj) : mS w0 g AY An nn cn ns Ad nd cd ds w (W.alloc o) := ⟨h.1.alloc o, by have := h.2; simp; omega⟩
theorem lY (h : mS w0 g AY An nn cn ns Ad nd cd ds w W) (hb : bW W W') : mS w0 g AY An nn cn ns Ad nd cd ds w W' := ⟨h.1.later hb, Nat.le_trans h.2 hb.size⟩
theorem tD (h : jm w0 g AY An nn cn ns Ad nd cd ds w LT kind t W) (hb : bW W W') : jm w0 g AY An nn cn ns Ad nd cd ds w LT kind t W' := ⟨lY h.1 hb, (hb.cell (p := ⟨t, kind, none⟩) (vK h.2)).trans h.2⟩
theorem qN (h : jm w0 g AY An nn cn ns Ad nd cd ds w LT kind t W) (o : Obj) : jm w0 g AY An nn cn ns Ad nd cd ds w LT kind t (W.alloc o) := tD h ((Below.refl _ _).alloc lR _)
theorem qO {q : Nat} (h : fT w0 g AY An nn cn ns Ad nd cd ds w LT kind t q W) (hb : bW W W') : fT w0 g AY An nn cn ns Ad nd cd ds w LT kind t q W' := ⟨tD h.1 hb, h.2.below hb h.2.lt⟩
theorem lZ {a b : Int} (hT : BA LT = xN kind) (h : mS w0 g AY An nn cn ns Ad nd cd ds w W) (hn : ∀ b, (Value.slice An nn cn).ownBlock = some b → b < w.heap.size) (hd : ∀ b, (Value.slice Ad nd cd).ownBlock = some b → b < w.heap.size) :
 lk w0 g AY An nn cn ns Ad nd cd ds kind a b (.pointer (some ⟨W.heap.size, 0, none⟩)) (W.alloc (.cells #[.string (Ea (Dm (BA LT) nd)), .int .i64 kind, .int .i64 a, .int .i64 b, .int .i64 0] 57)) := by
 have := h.2;have hz := h.1.size;rw [hT];exact ⟨W.heap.size, rfl, h.1.alloc _, AJ.new _ _ _, hz, fun q e => by have := hn q e; omega, fun q e => by have := hd q e; omega⟩
theorem pY {a b : Int} {q : Nat} (hT : BA LT = xN kind) (h : mS w0 g AY An nn cn ns Ad nd cd ds w W) (hB : AJ W q 57 #[.string ⟨#[]⟩, .int .i64 0, .int .i64 0, .int .i64 0, .int .i64 0]) (hq : w.heap.size ≤ q) (hw : w0.heap.size + 4 ≤ w.heap.size) (hn : ∀ b, (Value.slice An nn cn).ownBlock = some b → b < w.heap.size) (hd : ∀ b, (Value.slice Ad nd cd).ownBlock = some b → b < w.heap.size) :
 lk w0 g AY An nn cn ns Ad nd cd ds kind a b (.pointer (some ⟨q, 0, none⟩)) (((((W.setCell ⟨q, 0, none⟩ (.string (Ea (Dm (BA LT) nd)))).setCell ⟨q, 1, none⟩ (.int .i64 kind)).setCell ⟨q, 2, none⟩ (.int .i64 a)).setCell ⟨q, 3, none⟩ (.int .i64 b)).setCell ⟨q, 4, none⟩ (.int .i64 0)) := by
 have e1 : ∀ r, (Value.slice An nn cn).ownBlock = some r → r ≠ q := fun r e => by have := hn r e; omega
 have e2 : ∀ r, (Value.slice Ad nd cd).ownBlock = some r → r ≠ q := fun r e => by have := hd r e; omega
 have TN : w0.heap.size + 4 ≤ q := by omega
 rw [hT];exact ⟨q, rfl, ((((h.1.store TN e1 e2).store TN e1 e2).store TN e1 e2).store TN e1 e2).store TN e1 e2, ((((hB.set 0 _).set 1 _).set 2 _).set 3 _).set 4 _, TN, e1, e2⟩
theorem yF.nb_row (h : yF w0 g AY An nn cn ns Ad nd cd ds W) (hg : W.grownBy W' (Value.slice Ad nd cd).ownBlock) : AJ W' (w0.heap.size + 3) 30 #[.slice An nn cn, .slice Ad nd cd] := h.nb.grown hg (fun e => by have := (h.rd.lt _ e.symm).1; omega)
end
theorem fJ (w0 : World) (g : Nat) (AY : Int) (An : Option Addr) (nn cn : Nat) (ns : List Nd) (Ad : Option Addr) (nd cd : Nat) (ds : List Dv) (kind : Nat) (a b : Int) (w : World) (h : yF w0 g AY An nn cn ns Ad nd cd ds w) (hk : 1 ≤ kind ∧ kind ≤ 6) (AB : nd < 100) :
 Calls Tryz.prog 44 #[.int .i64 kind, .int .i64 a, .int .i64 b, .pointer (some ⟨w0.heap.size + 3, 0, none⟩), .pointer (some ⟨w0.heap.size + 1, 0, none⟩), .pointer (some ⟨w0.heap.size, 0, none⟩)] w (fS w0 g AY An nn cn ns nd ds kind a b) := by
 have H := iD h; clear h;have k1 := H.nb.c1;have k2 := H.db.c0;by_cases h1 : AY ≤ nd
 ·have q1 : decide (AY ≤ (nd : Int)) = true := by simpa using h1
  go_enter Tryz.func44, Tryz.ntmps44
  go_wp2_with fail
  go_end0
  exact ⟨rfl, Ad, nd, cd, ds, H, fun _ => ⟨rfl, rfl⟩, fun h => absurd h (by omega)⟩
 have q1 : decide (AY ≤ (nd : Int)) = false := by simpa using h1
 go_enter Tryz.func44, Tryz.ntmps44
 go_upto_region 1 with (fail);clear q1 k2;have hsz := H.size;have NQ := iD (fun b e => (H.rn.lt b e).2);have AH := iD (fun b e => (H.rd.lt b e).2);have BX : w0.heap.size + 3 < w.heap.size := by omega
 have hnd' : (nd : Int) ≤ 9223372036854775807 := by omega
 go_cut [9] (fun s9 wc => lk w0 g AY An nn cn ns Ad nd cd ds kind a b s9 wc)
 case first =>
  have Uw : (#[.string ⟨#[]⟩, .string ⟨#[76]⟩, .string ⟨#[81]⟩, .string ⟨#[68]⟩, .string ⟨#[69]⟩, .string ⟨#[83]⟩, .string ⟨#[71]⟩] : Array Value)[kind]? = some (.string (Ea (xN kind))) := by
   rcases (show kind = 1 ∨ kind = 2 ∨ kind = 3 ∨ kind = 4 ∨ kind = 5 ∨ kind = 6 by omega) with rfl | rfl | rfl | rfl | rfl | rfl <;> rfl
  have AE : (Ea (xN kind)).size ≤ 1000 := by
   rcases (show kind = 1 ∨ kind = 2 ∨ kind = 3 ∨ kind = 4 ∨ kind = 5 ∨ kind = 6 by omega) with rfl | rfl | rfl | rfl | rfl | rfl <;> decide
  have HT : Hid (BA (Ea (xN kind)) = xN kind) := vZ _;generalize Ea (xN kind) = LT at *;have Ao : (kind : Int) < 7 := by omega
  refine zB (S := mS w0 g AY An nn cn ns Ad nd cd ds w) (J := [13]) (by kernel_rfl) ⟨H.drew, Nat.le_refl _⟩ (fun AA => ?_);refine ti 1 16 ?_ ?_ AA ?_;rotate_left
  ·(intro W AL; clear AL; go_simp; try with_reducible rfl)
  try simp only [Act.put, sA, sB, sC]
  refine ti 4 19 ?_ ?_ AA ?_;rotate_left
  ·(intro W AL; clear AL; go_simp; try with_reducible rfl)
  try simp only [Act.put, sA, sB, sC]
  refine ti 5 20 ?_ ?_ AA ?_;rotate_left
  ·(intro W AL; have k1 : W.cell? ⟨w0.heap.size + 3, 1, none⟩ = some (.slice Ad nd cd) := AL.1.nb.cell 1; clear AL; go_simp; try with_reducible rfl)
  try simp only [Act.put, sA, sB, sC]
  refine ti 6 21 ?_ ?_ AA ?_;rotate_left
  ·(intro W AL; clear AL; go_simp; try with_reducible rfl)
  try simp only [Act.put, sA, sB, sC]
  refine ti 8 23 ?_ ?_ AA ?_;rotate_left
  ·(intro W AL; clear AL; go_simp; try with_reducible rfl)
  try simp only [Act.put, sA, sB, sC]
  refine ti 9 24 ?_ ?_ AA ?_;rotate_left
  ·(intro W AL; clear AL; go_simp; try with_reducible rfl)
  try simp only [Act.put, sA, sB, sC]
  refine ti 10 25 ?_ ?_ AA ?_;rotate_left
  ·(intro W AL; clear AL; go_simp; try with_reducible rfl)
  try simp only [Act.put, sA, sB, sC]
  clear k1;refine uk (i := 0) (k := 12) (by kernel_rfl) rfl rfl (fun K hK => ?_) (fun K hK => ?_)
  ·go_simp
   refine hK _ _ (fun _ => tE AA _) fun p => (fun AA => ?_) (p rfl)
   clear p hK K
   try simp only [Act.put, sA, sB, sC]
   refine vy (jm w0 g AY An nn cn ns Ad nd cd ds w LT kind w.heap.size) (fun _ h => h.1) ⟨AA, ((AJ.new _ _ _).cell _).trans Uw⟩ (fun AA => ?_);refine ti 2 17 ?_ ?_ AA ?_;rotate_left
   ·(intro W AL; have kt := AL.2; clear AL; go_simp; try with_reducible rfl)
   try simp only [Act.put, sA, sB, sC]
   refine ti 3 18 ?_ ?_ AA ?_;rotate_left
   ·(intro W AL; have kt := AL.2; clear AL; go_simp; try with_reducible rfl)
   try simp only [Act.put, sA, sB, sC]
   generalize QM : World.alloc _ _ = W1 at *;refine uk (i := 7) (k := 12) (by kernel_rfl) rfl rfl (fun K hK => ?_) (fun K hK => ?_)
   ·go_simp
    refine (wu LT nd _ AE AB).mono ?_;rintro e wa ⟨rfl, Nt⟩
    go_simp
    refine hK _ _ (fun _ => tD AA Nt) fun p => (fun AA => ?_) (p rfl)
    clear p hK K
    try simp only [Act.put, sA, sB, sC]
    refine ti 11 26 ?_ ?_ AA ?_;rotate_left
    ·(intro W AL; clear AL; go_simp; try with_reducible rfl)
    try simp only [Act.put, sA, sB, sC]
    have Ak := iD AA;refine yQ (k := 12) (by kernel_rfl) rfl (fun K hK => ?_)
    go_simp
    refine hK _ _ (fun _ => qN AA _) fun p => (fun AA => ?_) (p rfl)
    clear p hK K
    try simp only [Act.put, sA, sB, sC]
    refine yQ (k := 13) (by kernel_rfl) rfl (fun K hK => ?_)
    go_simp
    refine hK _ _ (fun h => by cases h) (fun _ => ?_);clear hK K
    try simp only [Act.put, sA, sB, sC]
    refine tK ?_
    go_wp2_with fail
    go_meet
    case rel => exact lZ HT Ak.1 NQ AH.out
   ·go_simp
    refine hK _ _ (fun _ => qN AA _) fun p => (fun AA => ?_) (p rfl)
    clear p hK K
    try simp only [Act.put, sA, sB, sC]
    have RP : w.heap.size ≤ W1.heap.size := by rw [← QM]; simp
    refine vy (fT w0 g AY An nn cn ns Ad nd cd ds w LT kind (w.heap.size) (W1.heap.size)) (fun _ h => h.1) ⟨AA, AJ.new _ _ _⟩ (fun AA => ?_);refine yQ (k := 7) (by kernel_rfl) rfl (fun K hK => ?_)
    go_simp
    refine (wu LT nd _ AE AB).mono ?_;rintro e wa ⟨rfl, Nt⟩
    go_simp
    refine hK _ _ (fun _ => qO AA Nt) fun p => (fun AA => ?_) (p rfl)
    clear p hK K
    try simp only [Act.put, sA, sB, sC]
    refine ti 11 26 ?_ ?_ AA ?_;rotate_left
    ·(intro W AL; clear AL; go_simp; try with_reducible rfl)
    try simp only [Act.put, sA, sB, sC]
    have EQ := iD AA.2;have AG := iD AA.1.1;have z0 := EQ.c0;have f0 : wa.frozen? ⟨W1.heap.size, 0, none⟩ = false := EQ.frozen 0;have z1 := EQ.c1;have f1 : wa.frozen? ⟨W1.heap.size, 1, none⟩ = false := EQ.frozen 1;have z2 := EQ.c2;have f2 : wa.frozen? ⟨W1.heap.size, 2, none⟩ = false := EQ.frozen 2;have z3 := EQ.c3;have f3 : wa.frozen? ⟨W1.heap.size, 3, none⟩ = false := EQ.frozen 3;have z4 := EQ.c4;have f4 : wa.frozen? ⟨W1.heap.size, 4, none⟩ = false := EQ.frozen 4;refine yQ (k := 13) (by kernel_rfl) rfl (fun K hK => ?_)
    go_simp
    refine hK _ _ (fun h => by cases h) (fun _ => ?_);clear hK K
    try simp only [Act.put, sA, sB, sC]
    refine tK ?_
    go_wp2_with fail
    go_meet
    case rel => exact pY HT AG EQ RP hsz NQ AH.out
  ·go_simp
   refine hK _ _ (fun _ => tE AA _) fun p => (fun AA => ?_) (p rfl)
   clear p hK K
   try simp only [Act.put, sA, sB, sC]
   generalize QM : World.alloc _ _ = W1 at *;have ME : AJ W1 w.heap.size 57 #[.string ⟨#[]⟩, .int .i64 0, .int .i64 0, .int .i64 0, .int .i64 0] := by rw [← QM]; exact AJ.new _ _ _
   have RP : w.heap.size ≤ w.heap.size := Nat.le_refl _;refine yQ (k := 0) (by kernel_rfl) rfl (fun K hK => ?_)
   go_simp
   refine hK _ _ (fun _ => tE AA _) fun p => (fun AA => ?_) (p rfl)
   clear p hK K
   try simp only [Act.put, sA, sB, sC]
   refine vy (fT w0 g AY An nn cn ns Ad nd cd ds w LT kind (W1.heap.size) (w.heap.size)) (fun _ h => h.1.1) ⟨⟨AA, ((AJ.new _ _ _).cell _).trans Uw⟩, ME.alloc _⟩ (fun AA => ?_);clear ME;refine ti 2 17 ?_ ?_ AA ?_;rotate_left
   ·(intro W AL; have kt := AL.1.2; clear AL; go_simp; try with_reducible rfl)
   try simp only [Act.put, sA, sB, sC]
   refine ti 3 18 ?_ ?_ AA ?_;rotate_left
   ·(intro W AL; have kt := AL.1.2; clear AL; go_simp; try with_reducible rfl)
   try simp only [Act.put, sA, sB, sC]
   refine yQ (k := 7) (by kernel_rfl) rfl (fun K hK => ?_)
   go_simp
   refine (wu LT nd _ AE AB).mono ?_;rintro e wa ⟨rfl, Nt⟩
   go_simp
   refine hK _ _ (fun _ => qO AA Nt) fun p => (fun AA => ?_) (p rfl)
   clear p hK K
   try simp only [Act.put, sA, sB, sC]
   refine ti 11 26 ?_ ?_ AA ?_;rotate_left
   ·(intro W AL; clear AL; go_simp; try with_reducible rfl)
   try simp only [Act.put, sA, sB, sC]
   have EQ := iD AA.2;have AG := iD AA.1.1;have z0 := EQ.c0;have f0 : wa.frozen? ⟨w.heap.size, 0, none⟩ = false := EQ.frozen 0;have z1 := EQ.c1;have f1 : wa.frozen? ⟨w.heap.size, 1, none⟩ = false := EQ.frozen 1;have z2 := EQ.c2;have f2 : wa.frozen? ⟨w.heap.size, 2, none⟩ = false := EQ.frozen 2;have z3 := EQ.c3;have f3 : wa.frozen? ⟨w.heap.size, 3, none⟩ = false := EQ.frozen 3;have z4 := EQ.c4;have f4 : wa.frozen? ⟨w.heap.size, 4, none⟩ = false := EQ.frozen 4;refine yQ (k := 13) (by kernel_rfl) rfl (fun K hK => ?_)
   go_simp
   refine hK _ _ (fun h => by cases h) (fun _ => ?_);clear hK K
   try simp only [Act.put, sA, sB, sC]
   refine tK ?_
   go_wp2_with fail
   go_meet
   case rel => exact pY HT AG EQ RP hsz NQ AH.out
 case rest =>
  obtain ⟨b9, rfl, AX, hblk, Be, AZ, Aa⟩ := hcut;have BG := iD AX; have UF := iD hblk; have WM := iD AZ; have Wh := iD Aa;clear AX hblk AZ Aa
  rename_i wc _
  have kp := BG.pb.c0
  go_wp2_with fail
  clear kp;refine (wK g 8 wc BG.deck (by decide)).mono ?_;rintro e w1 ⟨r, rfl, BB, Av, Bc⟩;have BF := iD (BG.next BB Av);have Km := iD (UF.grown Av (fun e => by have := BG.lt; injection e with e; omega));clear BB Av Bc;rcases r with _ | _
  ·skip
   have kd := BF.nb.c1;obtain ⟨e0, e1, e2, e3, e4⟩ := Km.d5;have IM := BF.size
   go_wp2_with (at_builtin; go_must (refine zM rfl (.tmp 34) (.tmp 36) rfl gE (by rfl) (BF.rd.alloc _) (by rfl) (Sl.newest (n := 1) (by rfl) (by rfl) (by decide)) (by simp [Value.oneCell']) (by omega) (by omega) (by simp; omega) ?_; intro A' cap' w3 BL CG DU; have CF := (BF.alloc _).nb_row CG; have Hf := iD ((BF.alloc _).dev (x := ⟨Ea (Dm (xN kind) nd), kind, a, b, 0⟩) BL CG DU); have kn : w3.cell? ⟨w0.heap.size + 3, 1, none⟩ = some (.slice Ad nd cd) := CF.cell 1; have fn := CF.frozen 1; clear BL CG DU CF))
   go_end0
   exact ⟨rfl, A', nd + 1, cap', _, Hf, fun h => absurd h (by omega), fun _ => ⟨rfl, 0, by decide, by decide, rfl⟩⟩
  ·have kp := BF.pb.c0
   go_wp2_with fail
   clear kp;refine (zT g 2 w1 BF.deck (by decide)).mono ?_;rintro e w2 ⟨r, rfl, Am, KL, Uo, Gy, DD, Jn⟩;have TM : r < 2 := Uo (by decide);have EM := iD (BF.next Gy DD);have TA := iD (Km.grown DD (fun e => by have := BG.lt; injection e with e; omega));clear KL Uo Gy DD Jn;have c4 := TA.c4;have f4 := TA.frozen 4;have FH := iD (EM.store (u := .int .i64 (1 + r)) (j := 4) Be WM Wh);have AO := iD (TA.set 4 (.int .i64 (1 + r)));go_upto_region 4 with (fail);clear c4 f4;generalize World.setCell _ _ _ = w4 at *;have kd := FH.nb.c1;obtain ⟨e0, e1, e2, e3, e4⟩ := AO.d5;have IM := FH.size
   go_wp2_with (at_builtin; go_must (refine zM rfl (.tmp 34) (.tmp 36) rfl gE (by rfl) (FH.rd.alloc _) (by rfl) (Sl.newest (n := 1) (by rfl) (by rfl) (by decide)) (by simp [Value.oneCell']) (by omega) (by omega) (by simp; omega) ?_; intro A' cap' w3 BL CG DU; have CF := (FH.alloc _).nb_row CG; have Hf := iD ((FH.alloc _).dev (x := ⟨Ea (Dm (xN kind) nd), kind, a, b, (1 + r)⟩) BL CG DU); have kn : w3.cell? ⟨w0.heap.size + 3, 1, none⟩ = some (.slice Ad nd cd) := CF.cell 1; have fn := CF.frozen 1; clear BL CG DU CF))
   go_end0
   exact ⟨rfl, A', nd + 1, cap', _, Hf, fun h => absurd h (by omega), fun _ => ⟨rfl, 1 + r, by omega, by omega, rfl⟩⟩
end
section
open Go.RowKit
def eL (i : Nat) (x : Nd) : Prop := x.name = Ea (Dm [78] i) ∧ 0 ≤ x.cust ∧ x.cust ≤ 50 ∧ 0 ≤ x.comp ∧ x.comp ≤ 2
def dJ (k i : Nat) (x : Dv) : Prop := x.name = Ea (Dm (xN x.kind.toNat) i) ∧ 1 ≤ x.kind ∧ x.kind ≤ 6 ∧ xX x.kind x.a x.b k = true ∧ 0 ≤ x.comp ∧ x.comp ≤ 2
def pe (ns : List Nd) : Prop := ∀ i x, ns[i]? = some x → eL i x
def pf (k : Nat) (ds : List Dv) : Prop := ∀ i x, ds[i]? = some x → dJ k i x
theorem pe.snoc {ns : List Nd} (h : pe ns) {x : Nd} (hx : eL ns.length x) : pe (ns ++ [x]) := by
 intro i y hy;rcases Nat.lt_trichotomy i ns.length with h1 | h1 | h1
 ·rw [List.getElem?_append_left h1] at hy; exact h i y hy
 ·subst h1; simp at hy; subst hy; exact hx
 ·rw [List.getElem?_eq_none (by simp; omega)] at hy; cases hy
theorem pf.snoc {k : Nat} (h : pf k ds) (hx : dJ k ds.length x) : pf k (ds ++ [x]) := by
 intro i y hy;rcases Nat.lt_trichotomy i ds.length with h1 | h1 | h1
 ·rw [List.getElem?_append_left h1] at hy; exact h i y hy
 ·subst h1; simp at hy; subst hy; exact hx
 ·rw [List.getElem?_eq_none (by simp; omega)] at hy; cases hy
def qQ (lo : Nat) (w0 : World) (g : Nat) (AY : Int) (An : Option Addr) (k cn : Nat) (ns : List Nd) (w : World) : Prop :=
 ∃ (Ad : Option Addr) (nd cd : Nat) (ds : List Dv), yF w0 g AY An k cn ns Ad nd cd ds w ∧ (nd : Int) ≤ AY ∧ lo ≤ nd ∧ ds.length = nd ∧ pf k ds
section
variable {w0 w w' : World} {g lo k cn : Nat} {AY : Int} {An : Option Addr} {ns : List Nd}
theorem qQ.next (h : qQ lo w0 g AY An k cn ns w) (hd : zN w' g) (hg : w.grownBy w' (some g)) : qQ lo w0 g AY An k cn ns w' := by
 obtain ⟨Ad, nd, cd, ds, h1, h2⟩ := h;exact ⟨Ad, nd, cd, ds, h1.next hd hg, h2⟩
theorem qQ.deck (h : qQ lo w0 g AY An k cn ns w) : zN w g := by
 obtain ⟨Ad, nd, cd, ds, h1, h2⟩ := h;exact h1.deck
theorem qQ.pc (h : qQ lo w0 g AY An k cn ns w) : w.cell? ⟨w0.heap.size, 0, none⟩ = some (.pointer (some ⟨g, 0, none⟩)) := by
 obtain ⟨Ad, nd, cd, ds, h1, h2⟩ := h;exact h1.pb.cell 0
def eP (w0 : World) (g : Nat) (AY : Int) (An : Option Addr) (k cn : Nat) (ns : List Nd) (e : Ending) (w' : World) : Prop := e = .returned (.tuple #[]) ∧ Hid (qQ 1 w0 g AY An k cn ns w')
theorem vo (kind a b : Int) (h : qQ lo w0 g AY An k cn ns w) (hk : 1 ≤ kind ∧ kind ≤ 6) (hm : 1 ≤ AY ∧ AY ≤ 90) (he : xX kind a b k = true) :
 Calls Tryz.prog 44 #[.int .i64 kind, .int .i64 a, .int .i64 b, .pointer (some ⟨w0.heap.size + 3, 0, none⟩), .pointer (some ⟨w0.heap.size + 1, 0, none⟩), .pointer (some ⟨w0.heap.size, 0, none⟩)] w (eP w0 g AY An k cn ns) := by
 obtain ⟨Ad, nd, cd, ds, h1, h2, h3, h4, h5⟩ := h;obtain ⟨q, rfl⟩ := Int.eq_ofNat_of_zero_le (show 0 ≤ kind by omega);refine (fJ w0 g AY An k cn ns Ad nd cd ds q a b w h1 (by omega) (by omega)).mono ?_;rintro e w1 ⟨rfl, Ad', nd', cd', ds', hs, hA, hB⟩;refine ⟨rfl, Ad', nd', cd', ds', hs, ?_⟩;by_cases hc : AY ≤ nd
 ·obtain ⟨rfl, rfl⟩ := hA hc;exact ⟨h2, by omega, h4, h5⟩
 ·obtain ⟨rfl, comp, MB, Ta, rfl⟩ := hB (by omega);refine ⟨by omega, by omega, by simp [h4], h5.snoc ?_⟩;rw [h4];exact ⟨rfl, hk.1, hk.2, he, MB, Ta⟩
end
structure uZ (nodes AY : Int) (ns : List Nd) (ds : List Dv) : Prop where
 n2 : 2 ≤ ns.length
 nm : (ns.length : Int) ≤ nodes
 d1 : 1 ≤ ds.length
 dm : (ds.length : Int) ≤ AY
 nok : pe ns
 dok : pf ns.length ds
def kX (w : World) (g : Nat) (nodes AY : Int) (e : Ending) (w' : World) : Prop :=
 ∃ (An : Option Addr) (nn cn : Nat) (ns : List Nd) (Ad : Option Addr) (nd cd : Nat) (ds : List Dv), e = .returned (.agg #[.slice An nn cn, .slice Ad nd cd]) ∧ Hid (zN w' g) ∧ Hid (w.grownBy w' (some g)) ∧
  Hid (w'.ownsRow (w.heap.size + 4) 85 3 (.slice An nn cn) nn (ns.flatMap Nd.cells)) ∧ Hid (w'.ownsRow (w.heap.size + 4) 57 5 (.slice Ad nd cd) nd (ds.flatMap Dv.cells)) ∧ Hid (uZ nodes AY ns ds)
theorem my {w wr : World} {g nn cn : Nat} {nodes AY : Int} {An : Option Addr} {ns : List Nd} (Ad : Option Addr) (nd cd : Nat) (ds : List Dv) (h : yF w g AY An nn cn ns Ad nd cd ds wr) (h1 : (nd : Int) ≤ AY ∧ 1 ≤ nd ∧ ds.length = nd ∧ pf nn ds) (h2 : ns.length = nn ∧ pe ns) (h3 : 2 ≤ nn ∧ (nn : Int) ≤ nodes) (u v : Value) :
 kX w g nodes AY (.returned (.agg #[.slice An nn cn, .slice Ad nd cd])) ((wr.setCell ⟨w.heap.size + 2, 0, none⟩ u).setCell ⟨w.heap.size + 2, 1, none⟩ v) := by
 have hl := h.lt;have Av : wr.grownBy ((wr.setCell ⟨w.heap.size + 2, 0, none⟩ u).setCell ⟨w.heap.size + 2, 1, none⟩ v) (some (w.heap.size + 2)) := ⟨rfl, rfl, rfl, by simp [World.setCell], fun i _ hi => (Below.heap_setCell _ _ _ i (fun e => hi (by rw [e]))).trans (Below.heap_setCell wr _ _ i (fun e => hi (by rw [e])))⟩;refine ⟨An, nn, cn, ns, Ad, nd, cd, ds, rfl, ?_, ?_, ?_, ?_, ?_⟩
 ·exact (h.deck.setCell (by simp; omega) _).setCell (by simp; omega) _
 ·exact zj (zj h.gr (by simp) _) (by simp) _
 ·exact h.rn.kept Av (zb fun b e => by have := (h.rn.lt b e).1; omega)
 ·exact h.rd.kept Av (zb fun b e => by have := (h.rd.lt b e).1; omega)
 ·exact ⟨by rw [h2.1]; exact h3.1, by rw [h2.1]; exact h3.2, by omega, by omega, h2.2, by rw [h2.1]; exact h1.2.2.2⟩
end
end Go.Proofs.YtkkobemhbicjgaaGreatDoor
