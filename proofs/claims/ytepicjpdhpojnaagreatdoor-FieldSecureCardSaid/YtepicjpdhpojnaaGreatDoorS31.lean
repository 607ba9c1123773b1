import Derived.Test.YtepicjpdhpojnaaGreatDoorS30
import Derived.Test.YtepicjpdhpojnaaGreatDoorS27
set_option maxRecDepth 100000
set_option maxHeartbeats 8000000
namespace Go.Proofs.YtepicjpdhpojnaaGreatDoor
open Go.RowKit
def RmJ (w : World) (NN : Array Value) (n : Nat) (ds : List Dv) (es z : List Int) (gk : Nat) (ov iv : Value) (wr : World) : Prop :=
 ∃ (i m co : Nat) (Ao : Option Addr), ov = .slice Ao m co ∧ iv = .int .i64 i ∧ i ≤ n ∧ gk = n - i ∧ m ≤ i ∧ Hid (Blk wr w.heap.size 30 NN) ∧ Hid (Below w.heap.size w wr) ∧ Hid (IntsO wr (w.heap.size + 1) Ao m co (missL ds es (z.take i)))
theorem rmiss_any (An Ad Az Ae : Option Addr) (nn cn nd cd n c ne ce : Nat) (ds : List Dv) (es z : List Int) (w : World) (hd : Sl w w.heap.size 5 Ad nd cd (ds.flatMap Dv.cells)) (hz : Sl w w.heap.size 1 Az n c (intsV z)) (he : Sl w w.heap.size 1 Ae ne ce (intsV es))
 (hnn : nn ≤ 10000) (hends : EndsOk nn ds) (ha : AOk nn ds) (hneq : ∀ x ∈ ds, joinsB x.kind = true → x.b ≠ x.a) (hzv : ∀ v ∈ z, 0 ≤ v ∧ v < nn) (hn : n ≤ 10000) :
 Calls Tryz.prog 95 #[.agg #[.slice An nn cn, .slice Ad nd cd], .slice Az n c, .slice Ae ne ce] w (IntsPost w (missL ds es z)) := by
 have HLZ := Lib.hid (hz.len (fun _ => rfl) (by decide))
 have hzl := hz.le
 have HB0 : Hid (Below w.heap.size w (w.alloc (.cells #[.slice An nn cn, .slice Ad nd cd] 30))) := (Below.refl _ _).alloc (Nat.le_refl _) _
 have HK0 := Lib.hid (Blk.new w 30 #[.slice An nn cn, .slice Ad nd cd])
 have HZ := Lib.hid hz
 have HPR := Lib.hid (fun (W : World) (hb : Below w.heap.size w W) (v : Int) (hv : v ∈ z) => rprot_any An Ad Ae nn cn nd cd ne ce ds es v W ((hd.below hb (Nat.le_refl _)).more hb.size) ((he.below hb (Nat.le_refl _)).more hb.size) hnn hends ha hneq (hzv v hv))
 clear hd hz he hends ha hneq hzv
 go_enter Tryz.func95, Tryz.ntmps95
 go_wp2_with fail
 generalize World.alloc w _ = W at *
 go_loopg [7, 8] n (RmJ w #[.slice An nn cn, .slice Ad nd cd] n ds es z)
 case atStart => exact ⟨0, 0, 0, none, rfl, rfl, Nat.zero_le _, rfl, Nat.le_refl _, HK0, HB0, World.ownsRow_nil _ _ _ _⟩
 case round =>
  clear HK0 HB0
  obtain ⟨i, m, co, Ao, rfl, rfl, hi, rfl, hmi, HK, HB, HI⟩ := hrel
  by_cases hlt : i < n; rotate_left
  ·obtain rfl : i = n := by omega
   have hii : decide (i < i) = false := by simp
   go_wp2_with fail
   go_ret
   have := HI.out.base1
   rw [List.take_of_length_le (by rw [HLZ.out]; exact Nat.le_refl _)] at this
   exact intsPost_is this.len this HB.out
  obtain ⟨bz, oz, v, rfl, hbz, hx, hc⟩ := (HZ.out.below HB.out (Nat.le_refl _)).at1 hlt
  have HX := Lib.hid hx
  have HVM := Lib.hid (List.mem_of_getElem? hx)
  have HC := Lib.hid hc
  clear hx hc
  go_upto_region 5 with (fail)
  refine wp_region_ord (S := fun W' => W'.cell? ⟨w.heap.size, 0, none⟩ = some (.slice An nn cn) ∧ W'.cell? ⟨w.heap.size, 1, none⟩ = some (.slice Ad nd cd) ∧ W'.cell? ⟨bz, oz + i, none⟩ = some (.int .i64 v)) (J := []) (n := _) ((1, true) :: (2, true) :: (5, true) :: (0, true) :: (3, true) :: (4, true) :: (6, false) :: (7, true) :: []) (by as_aux_lemma => kernel_rfl) (by rfl) (base_cons (k := 1) (by go_simp; rfl) (base_cons (k := 8) (by go_simp; rfl) (base_cons (k := 2) (by go_simp; rfl) (base_cons (k := 3) (by go_simp; rfl) base_nil)))) ?_ (fun _ _ _ _ _ h => h) (fun Q2 A hsz hbase hn2 hHeld => ?_)
  ·exact ⟨HK.out.cell 0, HK.out.cell 1, HC.out⟩
  try dsimp only at hHeld
  obtain ⟨b1, b8, b2, b3, -⟩ := hbase
  refine ord_move (i := 1) (d := 16) (v := ?_) rfl rfl rfl (wanted_none rfl) hHeld (fun ρ hρ => ?_) ?_
  rotate_left
  ·(have e1 := Eq.trans (hρ.tmp hsz 1 rfl) (lkp_base b1); exact e1)
  show wpOrd _ _ _ _ _ _ _ _
  refine ord_move (i := 2) (d := 17) (v := ?_) rfl rfl rfl (wanted_none rfl) hHeld (fun ρ hρ => ?_) ?_
  rotate_left
  ·(have e8 := Eq.trans (hρ.tmp hsz 8 rfl) (miss1 rfl (lkp_base b8)); exact e8)
  show wpOrd _ _ _ _ _ _ _ _
  refine ord_move (i := 5) (d := 20) (v := ?_) rfl rfl rfl (wanted_none rfl) hHeld (fun ρ hρ => ?_) ?_
  rotate_left
  ·(have e2 := Eq.trans (hρ.tmp hsz 2 rfl) (miss1 rfl (miss1 rfl (lkp_base b2))); exact e2)
  show wpOrd _ _ _ _ _ _ _ _
  refine ord_take (i := 0) (d := 15) (v := ?_) rfl rfl (wanted_none rfl) hHeld (fun ρ hρ w hSw => ?_) ?_
  rotate_left
  ·(have e3 := Eq.trans (hρ.tmp hsz 3 rfl) (miss1 rfl (miss1 rfl (miss1 rfl (lkp_base b3)))); clear hρ; (try dsimp only at hSw); have k0 := hSw.1; have k1 := hSw.2.1; clear hSw; go_simp; try with_reducible rfl)
  show wpOrd _ _ _ _ _ _ _ _
  refine ord_take (i := 3) (d := 18) (v := ?_) rfl rfl (wanted_none rfl) hHeld (fun ρ hρ w hSw => ?_) ?_
  rotate_left
  ·(have e16 := Eq.trans (hρ.tmp hsz 16 rfl) (miss1 rfl (miss1 rfl (miss1 rfl lkp_hit))); have e17 := Eq.trans (hρ.tmp hsz 17 rfl) (miss1 rfl (miss1 rfl lkp_hit)); clear hρ; (try dsimp only at hSw); go_simp; try with_reducible rfl)
  show wpOrd _ _ _ _ _ _ _ _
  refine ord_take (i := 4) (d := 19) (v := ?_) rfl rfl (wanted_none rfl) hHeld (fun ρ hρ w hSw => ?_) ?_
  rotate_left
  ·(have e18 := Eq.trans (hρ.tmp hsz 18 rfl) lkp_hit; clear hρ; (try dsimp only at hSw); have hc := hSw.2.2; clear hSw; go_simp; try with_reducible rfl)
  show wpOrd _ _ _ _ _ _ _ _
  refine ord_call (i := 6) (d := 21) (vs := ?_) rfl rfl rfl (wanted_none rfl) (fun ρ hρ => ?_) ?_ ?_
  rotate_left
  ·(have e15 := Eq.trans (hρ.tmp hsz 15 rfl) (miss1 rfl (miss1 rfl lkp_hit)); have e19 := Eq.trans (hρ.tmp hsz 19 rfl) lkp_hit; have e20 := Eq.trans (hρ.tmp hsz 20 rfl) (miss1 rfl (miss1 rfl (miss1 rfl lkp_hit))); simp only [List.map_toArray, List.map_cons, List.map_nil, e15, e19, e20]; try with_reducible rfl)
  ·(intro w; go_simp)
  refine (HPR.out wr.drew HB.out.drew v HVM.out).mono ?_
  rintro e w3 ⟨rfl, hb3⟩
  have HB3 := Lib.hid (HB.out.drew.trans (hb3.mono HB.out.drew.size))
  have HK3 := Lib.hid ((HK.out.below (Below.refl wr.heap.size wr).drew HK.out.lt).below hb3 HK.out.lt)
  have HI3 := Lib.hid ((HI.out.later (Below.refl _ _).drew).later hb3)
  have HC3 : Hid (w3.cell? ⟨bz, oz + i, none⟩ = some (.int .i64 v)) := (hb3.cell (p := ⟨bz, oz + i, none⟩) (by have := HB.out.size; exact Nat.lt_of_lt_of_le hbz this)).trans HC.out
  clear hb3 HB HK HI HC
  refine ⟨_, rfl, fun _ => ?_, fun hHeld' => ?_⟩
  ·exact ⟨HK3.out.cell 0, HK3.out.cell 1, HC3.out⟩
  replace hHeld := hHeld' rfl
  clear hHeld'
  try dsimp only at hHeld
  show wpOrd _ _ _ _ _ _ _ _
  refine ord_take (i := 7) (d := 22) (v := ?_) rfl rfl (wanted_none rfl) hHeld (fun ρ hρ w hSw => ?_) ?_
  rotate_left
  ·(have e21 := Eq.trans (hρ.tmp hsz 21 rfl) lkp_hit; clear hρ; (try dsimp only at hSw); go_simp; try with_reducible rfl)
  show wpOrd _ _ _ _ _ _ _ _
  refine ord_done hn2 ?_
  clear hHeld hn2 b1 b8 b2 b3 hsz A Q2
  simp only [puts_nil, puts_cons, put_lit, set_1, set_0]
  rcases hp : protB ds es v with _ | _
  ·have HT : Hid (missL ds es (z.take (i + 1)) = missL ds es (z.take i) ++ [v]) := by have := missL_snoc ds es HX.out; rw [hp] at this; unfold Hid; simpa using this
   have hc3 := HC3.out
   have hzs := HB3.out.size
   go_wp2_with (at_builtin; go_must (refine wpList_app rfl (.tmp 23) (.tmp 28) rfl el_int (by rfl) (HI3.out.alloc _) (by rfl) (Sl.newest (n := 1) (by simp) (by rfl) (by decide)) (by simp [Value.oneCell']) (by omega) (by omega) (by simp; omega) ?_; intro A2 co2 w5 hown5 hgr5 hat5; have HO5 := Lib.hid hown5; have HG5 := Lib.hid hgr5; clear hown5 hgr5 hat5))
   have HB5 : Hid (Below w.heap.size w w5) := (HB3.out.alloc hzs _).trans ⟨HG5.out.os, HG5.out.tape, HG5.out.output, HG5.out.size, fun t ht => HG5.out.block t (by simp; omega) (fun e => by have := (HI3.out.lt t e.symm).1; omega)⟩
   have HK5 : Hid (Blk w5 w.heap.size 30 #[.slice An nn cn, .slice Ad nd cd]) := (HK3.out.alloc _).keep (HG5.out.block _ (by simp; have := HK3.out.lt; omega) (fun e => by have := (HI3.out.lt _ e.symm).1; omega))
   have HO6 : Hid (IntsO w5 (w.heap.size + 1) A2 (m + 1) co2 (missL ds es (z.take (i + 1)))) := by
    unfold Hid
    rw [HT.out]
    unfold IntsO
    rw [intsV_append]
    exact HO5.out
   go_roundg (n - (i + 1))
   case rel => exact ⟨i + 1, m + 1, co2, A2, rfl, by go_num, by omega, rfl, by omega, HK5, HB5, HO6⟩
   case measure => omega
  ·have HT : Hid (missL ds es (z.take (i + 1)) = missL ds es (z.take i)) := by have := missL_snoc ds es HX.out; rw [hp] at this; unfold Hid; simpa using this
   have HO6 : Hid (IntsO w3 (w.heap.size + 1) Ao m co (missL ds es (z.take (i + 1)))) := by rw [HT.out]; exact HI3
   go_wp2_with fail
   go_roundg (n - (i + 1))
   case rel => exact ⟨i + 1, m, co, Ao, rfl, by go_num, by omega, rfl, by omega, HK3, HB3, HO6⟩
   case measure => omega
end Go.Proofs.YtepicjpdhpojnaaGreatDoor
namespace Go.Proofs.YtepicjpdhpojnaaGreatDoor
open Go.RowKit
theorem rgap_any (k : Int) (w : World) : Calls Tryz.prog 97 #[.int .i64 k] w fun e w' => e = .returned (.bool (gapB k)) ∧ w = w' := by
 by_cases h1 : k = 1
 ·subst h1
  go_enter Tryz.func97, Tryz.ntmps97
  go_wp2_with fail
  go_ret
  exact ⟨rfl, rfl⟩
 ·have q1 : (k == 1) = false := by simpa using h1
  by_cases h2 : k = 3
  ·subst h2
   go_enter Tryz.func97, Tryz.ntmps97
   go_wp2_with fail
   go_ret
   exact ⟨rfl, rfl⟩
  ·have q2 : (k == 3) = false := by simpa using h2
   have HR : Hid (gapB k = (k == 6)) := by unfold Hid gapB; rw [q1, q2]; simp
   go_enter Tryz.func97, Tryz.ntmps97
   go_wp2_with fail
   go_ret
   exact ⟨ret_bool HR.out.symm, rfl⟩
section
variable {ds : List Dv} {ls : List Lk}
end
end Go.Proofs.YtepicjpdhpojnaaGreatDoor
namespace Go.Proofs.YtepicjpdhpojnaaGreatDoor
open Go.RowKit
def rkB (earths : Bool) (k : Int) : Bool := if earths then k == 4 else gapB k
def SmR (w : World) (N : Array Value) (ds : List Dv) (ls : List Lk) (pos : Int) (p : Int → Bool) (n gk : Nat) (ov iv : Value) (wr : World) : Prop := ∃ (i m c : Nat) (A : Option Addr), ov = .slice A m c ∧ iv = .int .i64 i ∧ i ≤ n ∧ gk = n - i ∧ m ≤ i ∧ Hid ((thoTo ds ls pos p i).length = m) ∧ Hid (IntsO wr (w.heap.size + 1) A m c (thoTo ds ls pos p i)) ∧ Hid (PcSt w N wr)
theorem rsome_any (es : Bool) (pos : Int) (An Ad Al : Option Addr) (nn cn nd cd n c Bd Bl : Nat) (ds : List Dv) (ls : List Lk) (w : World) (hd : Sl w Bd 5 Ad nd cd (ds.flatMap Dv.cells)) (hs : Sl w Bl 3 Al n c (ls.flatMap Lk.cells)) (hBd : Bd ≤ w.heap.size) (hBl : Bl ≤ w.heap.size) (hnd : nd ≤ 1000) :
 Calls Tryz.prog 61 #[.agg #[.slice An nn cn, .slice Ad nd cd], .slice Al n c, .int .i64 pos, .bool es] w fun e w' => (∃ (A : Option Addr) (c' : Nat), e = .returned (.slice A (thoTo ds ls pos (rkB es) nd).length c') ∧ Hid (IntsO w' w.heap.size A (thoTo ds ls pos (rkB es) nd).length c' (thoTo ds ls pos (rkB es) nd))) ∧ Hid (Below w.heap.size w w') := by
 have HS := Lib.hid hs; have HD := Lib.hid hd
 have hdl := hd.le
 have HST : Hid (PcSt w #[.slice An nn cn, .slice Ad nd cd] (w.alloc (.cells #[.slice An nn cn, .slice Ad nd cd] 30))) := ⟨Blk.new _ _ _, (Below.refl _ _).alloc (Nat.le_refl _) _⟩
 clear hd hs
 go_enter Tryz.func61, Tryz.ntmps61
 go_wp2_with fail
 generalize World.alloc _ _ = W at *
 go_loopg [9, 10] nd (SmR w #[.slice An nn cn, .slice Ad nd cd] ds ls pos (rkB es) nd)
 case atStart => exact ⟨0, 0, 0, none, rfl, rfl, Nat.zero_le _, rfl, Nat.le_refl _, rfl, World.ownsRow_nil _ _ _ _, HST⟩
 case round =>
  clear HST
  obtain ⟨i, m, c3, A, rfl, rfl, hi, rfl, hmi, hlen, hO, hst⟩ := hrel
  have k1 : wr.cell? ⟨w.heap.size, 1, none⟩ = some (.slice Ad nd cd) := hst.out.bn.cell 1
  by_cases hlt : i < nd
  ·go_wp2_with fail
   clear k1
   refine (rlocked_any Al n c Bl ls i wr (HS.out.below hst.out.bl hBl) (by have := hst.out.bl.size; omega)).mono ?_
   rintro e w3 ⟨rfl, hb3⟩
   have HS3 := Lib.hid (hst.out.later hb3)
   have HO3 := Lib.hid (hO.out.later hb3)
   clear hb3 hst hO
   obtain ⟨b, off, x, rfl, hb, hx, hc⟩ := (HD.out.below HS3.out.bl hBd).at (fun _ => rfl) (by decide) hlt
   have HKO := Lib.hid (kindOf_at hx)
   obtain ⟨nm, kd, xa, xb, co⟩ := x
   have c1 : w3.cell? ⟨b, off + i * 5 + 1, none⟩ = some (.int .i64 kd) := hc 1 _ rfl
   have k1 : w3.cell? ⟨w.heap.size, 1, none⟩ = some (.slice (some ⟨b, off, none⟩) nd cd) := HS3.out.bn.cell 1
   clear hc hx
   have HSU := Lib.hid (thoTo_succ ds ls pos (rkB es) i)
   have HTB : Hid (thoB ds ls pos (rkB es) i = (decide (lckL ls i = some pos) && rkB es kd)) := by unfold Hid thoB; rw [HKO.out]
   have hz3 := HS3.out.bn.lt
   unfold lckE
   rcases hl : lckL ls i with _ | pv
   ·have HF : Hid (thoTo ds ls pos (rkB es) (i + 1) = thoTo ds ls pos (rkB es) i) := by unfold Hid; rw [HSU.out, HTB.out, hl]; rfl
    clear hl
    simp only [Option.getD_none, Option.isSome_none]
    go_wp2_with fail
    go_roundg (nd - (i + 1))
    case rel => exact ⟨i + 1, m, c3, A, rfl, by go_num, by omega, rfl, by omega, by rw [HF.out]; exact hlen, by rw [HF.out]; exact HO3, HS3⟩
    case measure => omega
   ·simp only [Option.getD_some, Option.isSome_some]
    by_cases hpp : pv = pos; rotate_left
    ·have qp : (pv == pos) = false := by simpa using hpp
     have HF : Hid (thoTo ds ls pos (rkB es) (i + 1) = thoTo ds ls pos (rkB es) i) := by unfold Hid; rw [HSU.out, HTB.out, hl]; simp [hpp]
     clear hl hpp
     go_wp2_with fail
     go_roundg (nd - (i + 1))
     case rel => exact ⟨i + 1, m, c3, A, rfl, by go_num, by omega, rfl, by omega, by rw [HF.out]; exact hlen, by rw [HF.out]; exact HO3, HS3⟩
     case measure => omega
    subst hpp
    have qp : (pv == pv) = true := by simp
    have hHIT : rkB es kd = true → Hid (thoTo ds ls pv (rkB es) (i + 1) = thoTo ds ls pv (rkB es) i ++ [(i : Int)]) := fun h => by unfold Hid; rw [HSU.out, HTB.out, hl, h]; simp
    have hMISS : rkB es kd = false → Hid (thoTo ds ls pv (rkB es) (i + 1) = thoTo ds ls pv (rkB es) i) := fun h => by unfold Hid; rw [HSU.out, HTB.out, hl, h]; simp
    have HHIT := Lib.hid hHIT; have HMISS := Lib.hid hMISS
    clear hl hHIT hMISS
    have hr1 : ∀ b, (Value.slice A m c3).ownBlock = some b → w.heap.size + 1 ≤ b := fun b e => (HO3.out.lt b e).1
    have HR1 := Lib.hid hr1
    clear hr1
    rcases es with _ | _
    ·have hrk : rkB false kd = gapB kd := rfl
     rw [hrk] at HHIT HMISS
     have HGP := Lib.hid (rgap_any kd w3)
     rcases hg : gapB kd with _ | _
     ·rw [hg] at HGP HMISS
      have HF := HMISS.out rfl
      clear hg hrk HHIT HMISS
      go_wp2_with fail
      refine HGP.out.mono ?_
      rintro e w4 ⟨rfl, rfl⟩
      go_wp2_with fail
      go_roundg (nd - (i + 1))
      case rel => exact ⟨i + 1, m, c3, A, rfl, by go_num, by omega, rfl, by omega, by rw [HF.out]; exact hlen, by rw [HF.out]; exact HO3, HS3⟩
      case measure => omega
     ·rw [hg] at HGP HHIT
      have HF := HHIT.out rfl
      clear hg hrk HHIT HMISS
      go_wp2_with fail
      refine HGP.out.mono ?_
      rintro e w4 ⟨rfl, rfl⟩
      clear k1 c1 qp
      go_wp2_with (at_builtin; go_must (refine wpList_app rfl (.tmp 54) (.tmp 56) rfl el_int (by rfl) (World.ownsRow.alloc HO3.out _) (by rfl) (Sl.newest (n := 1) (by simp) (by rfl) (by decide)) (by simp [Value.oneCell']) (by omega) (by omega) (by simp; omega) ?_; intro A' cap' w5 hown5 hgr5 hat5; have HO5 := Lib.hid hown5; have HG5 := Lib.hid hgr5; clear hown5 hgr5 hat5))
      go_roundg (nd - (i + 1))
      case rel =>
       have hg5 := HG5.out
       have hb5 : Below (w.heap.size + 1) w3 w5 := ((Below.refl _ _).alloc hz3 _).trans ⟨hg5.os, hg5.tape, hg5.output, hg5.size, fun t ht => hg5.block t (by simp; omega) (fun e => by have := HR1.out t e.symm; omega)⟩
       refine ⟨i + 1, m + 1, cap', A', rfl, by go_num, by omega, rfl, by omega, ?_, ?_, ⟨HS3.out.bn.below hb5 (by omega), HS3.out.bl.trans (hb5.mono (by omega))⟩⟩
       ·unfold Hid; rw [HF.out, List.length_append, hlen.out]; rfl
       ·unfold Hid IntsO; rw [HF.out, intsV_append]; exact HO5.out
      case measure => omega
    ·have hrk : rkB true kd = (kd == 4) := rfl
     rw [hrk] at HHIT HMISS
     rcases hg : (kd == 4) with _ | _
     ·rw [hg] at HMISS
      have HF := HMISS.out rfl
      clear hrk HHIT HMISS
      go_wp2_with fail
      go_roundg (nd - (i + 1))
      case rel => exact ⟨i + 1, m, c3, A, rfl, by go_num, by omega, rfl, by omega, by rw [HF.out]; exact hlen, by rw [HF.out]; exact HO3, HS3⟩
      case measure => omega
     ·rw [hg] at HHIT
      have HF := HHIT.out rfl
      clear hrk HHIT HMISS
      go_upto_region 8 with (fail)
      clear k1 c1 qp hg
      go_wp2_with (at_builtin; go_must (refine wpList_app rfl (.tmp 54) (.tmp 56) rfl el_int (by rfl) (World.ownsRow.alloc HO3.out _) (by rfl) (Sl.newest (n := 1) (by simp) (by rfl) (by decide)) (by simp [Value.oneCell']) (by omega) (by omega) (by simp; omega) ?_; intro A' cap' w5 hown5 hgr5 hat5; have HO5 := Lib.hid hown5; have HG5 := Lib.hid hgr5; clear hown5 hgr5 hat5))
      go_roundg (nd - (i + 1))
      case rel =>
       have hg5 := HG5.out
       have hb5 : Below (w.heap.size + 1) w3 w5 := ((Below.refl _ _).alloc hz3 _).trans ⟨hg5.os, hg5.tape, hg5.output, hg5.size, fun t ht => hg5.block t (by simp; omega) (fun e => by have := HR1.out t e.symm; omega)⟩
       refine ⟨i + 1, m + 1, cap', A', rfl, by go_num, by omega, rfl, by omega, ?_, ?_, ⟨HS3.out.bn.below hb5 (by omega), HS3.out.bl.trans (hb5.mono (by omega))⟩⟩
       ·unfold Hid; rw [HF.out, List.length_append, hlen.out]; rfl
       ·unfold Hid IntsO; rw [HF.out, intsV_append]; exact HO5.out
      case measure => omega
  ·obtain rfl : i = nd := by omega
   have hii : decide (i < i) = false := by simp
   go_wp2_with fail
   go_ret
   refine ⟨⟨A, c3, by rw [hlen.out]; rfl, ?_⟩, hst.out.bl⟩
   unfold Hid; rw [hlen.out]; exact hO.out.mono (by omega)
theorem rgaps_any (An Ad Al : Option Addr) (nn cn nd cd n c Bn Bd Bl : Nat) (ns : List Nd) (ds : List Dv) (ls : List Lk) (w : World) (hn : Sl w Bn 3 An nn cn (ns.flatMap Nd.cells)) (hd : Sl w Bd 5 Ad nd cd (ds.flatMap Dv.cells)) (hs : Sl w Bl 3 Al n c (ls.flatMap Lk.cells)) (hBn : Bn ≤ w.heap.size) (hBd : Bd ≤ w.heap.size) (hBl : Bl ≤ w.heap.size) (hnd : nd ≤ 1000)
 (hsn : ∀ x ∈ ns, x.name.size ≤ 9223372036854775807) (hsd : ∀ x ∈ ds, x.name.size ≤ 9223372036854775807) :
 Calls Tryz.prog 22 #[.agg #[.slice An nn cn, .slice Ad nd cd], .slice Al n c] w (IntsEPost w (locksErr ns ds ls) (thoTo ds ls 1 gapB nd)) := by
 have HS := Lib.hid hs; have HD := Lib.hid hd
 have HST : Hid (PcSt w #[.slice An nn cn, .slice Ad nd cd] (w.alloc (.cells #[.slice An nn cn, .slice Ad nd cd] 30))) := ⟨Blk.new _ _ _, (Below.refl _ _).alloc (Nat.le_refl _) _⟩
 have HCK := Lib.hid (rlcheck_any An Ad Al nn cn nd cd n c Bn Bd Bl ns ds ls (w.alloc (.cells #[.slice An nn cn, .slice Ad nd cd] 30)) (hn.below HST.out.bl hBn) (hd.below HST.out.bl hBd) (hs.below HST.out.bl hBl) (by simp; omega) (by simp; omega) (by simp; omega) hsn hsd)
 clear hn hd hs hsn hsd
 go_enter Tryz.func22, Tryz.ntmps22
 go_wp2_with fail
 generalize World.alloc _ _ = W at *
 refine HCK.out.mono ?_
 rintro e w1 ⟨rfl, hb1⟩
 have HS1 := Lib.hid (HST.out.later hb1)
 clear hb1 HST HCK
 by_cases h0 : locksErr ns ds ls = 0; rotate_left
 ·have q0 : (locksErr ns ds ls != 0) = true := by simpa using h0
  have HNZ := Lib.hid h0
  clear h0
  go_wp2_with fail
  go_ret2
  exact ⟨.inl ⟨HNZ.out, rfl⟩, HS1.out.bl⟩
 have HZ := Lib.hid h0
 rw [h0]
 clear h0
 have hz1 := HS1.out.bn.lt
 have k0 : w1.cell? ⟨w.heap.size, 0, none⟩ = some (.slice An nn cn) := HS1.out.bn.cell 0
 have k1 : w1.cell? ⟨w.heap.size, 1, none⟩ = some (.slice Ad nd cd) := HS1.out.bn.cell 1
 go_wp2_with fail
 clear k0 k1
 refine (rsome_any false 1 An Ad Al nn cn nd cd n c Bd Bl ds ls w1 (HD.out.below HS1.out.bl hBd) (HS.out.below HS1.out.bl hBl) (by omega) (by omega) hnd).mono ?_
 rintro e w2 ⟨⟨A, c2, rfl, hO⟩, hb⟩
 rw [show rkB false = gapB from rfl] at hO ⊢
 generalize thoTo ds ls 1 gapB nd = l at *
 go_wp2_with fail
 go_ret2
 exact ⟨.inr ⟨HZ.out, A, c2, rfl, hO.out.mono (by omega)⟩, HS1.out.bl.trans (hb.out.mono HS1.out.bl.size)⟩
theorem rearths_any (An Ad Al : Option Addr) (nn cn nd cd n c Bn Bd Bl : Nat) (ns : List Nd) (ds : List Dv) (ls : List Lk) (w : World) (hn : Sl w Bn 3 An nn cn (ns.flatMap Nd.cells)) (hd : Sl w Bd 5 Ad nd cd (ds.flatMap Dv.cells)) (hs : Sl w Bl 3 Al n c (ls.flatMap Lk.cells)) (hBn : Bn ≤ w.heap.size) (hBd : Bd ≤ w.heap.size) (hBl : Bl ≤ w.heap.size) (hnd : nd ≤ 1000)
 (hsn : ∀ x ∈ ns, x.name.size ≤ 9223372036854775807) (hsd : ∀ x ∈ ds, x.name.size ≤ 9223372036854775807) :
 Calls Tryz.prog 119 #[.agg #[.slice An nn cn, .slice Ad nd cd], .slice Al n c] w (IntsEPost w (locksErr ns ds ls) (thoTo ds ls 2 (fun k => k == 4) nd)) := by
 rw [show (fun k : Int => k == 4) = rkB true from rfl]
 have HS := Lib.hid hs; have HD := Lib.hid hd
 have HST : Hid (PcSt w #[.slice An nn cn, .slice Ad nd cd] (w.alloc (.cells #[.slice An nn cn, .slice Ad nd cd] 30))) := ⟨Blk.new _ _ _, (Below.refl _ _).alloc (Nat.le_refl _) _⟩
 have HCK := Lib.hid (rlcheck_any An Ad Al nn cn nd cd n c Bn Bd Bl ns ds ls (w.alloc (.cells #[.slice An nn cn, .slice Ad nd cd] 30)) (hn.below HST.out.bl hBn) (hd.below HST.out.bl hBd) (hs.below HST.out.bl hBl) (by simp; omega) (by simp; omega) (by simp; omega) hsn hsd)
 clear hn hd hs hsn hsd
 go_enter Tryz.func119, Tryz.ntmps119
 go_wp2_with fail
 generalize World.alloc _ _ = W at *
 refine HCK.out.mono ?_
 rintro e w1 ⟨rfl, hb1⟩
 have HS1 := Lib.hid (HST.out.later hb1)
 clear hb1 HST HCK
 by_cases h0 : locksErr ns ds ls = 0; rotate_left
 ·have q0 : (locksErr ns ds ls != 0) = true := by simpa using h0
  have HNZ := Lib.hid h0
  clear h0
  go_wp2_with fail
  go_ret2
  exact ⟨.inl ⟨HNZ.out, rfl⟩, HS1.out.bl⟩
 have HZ := Lib.hid h0
 rw [h0]
 clear h0
 have hz1 := HS1.out.bn.lt
 have k0 : w1.cell? ⟨w.heap.size, 0, none⟩ = some (.slice An nn cn) := HS1.out.bn.cell 0
 have k1 : w1.cell? ⟨w.heap.size, 1, none⟩ = some (.slice Ad nd cd) := HS1.out.bn.cell 1
 go_wp2_with fail
 clear k0 k1
 refine (rsome_any true 2 An Ad Al nn cn nd cd n c Bd Bl ds ls w1 (HD.out.below HS1.out.bl hBd) (HS.out.below HS1.out.bl hBl) (by omega) (by omega) hnd).mono ?_
 rintro e w2 ⟨⟨A, c2, rfl, hO⟩, hb⟩
 generalize thoTo ds ls 2 (rkB true) nd = l at *
 go_wp2_with fail
 go_ret2
 exact ⟨.inr ⟨HZ.out, A, c2, rfl, hO.out.mono (by omega)⟩, HS1.out.bl.trans (hb.out.mono HS1.out.bl.size)⟩
end Go.Proofs.YtepicjpdhpojnaaGreatDoor
namespace Go.Proofs.YtepicjpdhpojnaaGreatDoor
open Go.RowKit
def RtO (w : World) (NN : Array Value) (w4 : World) (nn : Nat) (ds : List Dv) (er : List Int) (R : Int → Prop) (gk : Nat) (ov iv : Value) (wr : World) : Prop :=
 ∃ (i m co : Nat) (Ao : Option Addr), ov = .slice Ao m co ∧ iv = .int .i64 i ∧ i ≤ nn ∧ gk = nn - i ∧ m ≤ i ∧ Hid (Blk wr w.heap.size 30 NN) ∧ Hid (Below w4.heap.size w4 wr) ∧ Hid (IntsO wr w4.heap.size Ao m co ((nodesL i R).filter (cntB ds er)))
def RtI (w : World) (NN : Array Value) (w4 w6 : World) (ne : Nat) (ds : List Dv) (er : List Int) (hit : Prop) (v : Int) (o0 : Value) (gk : Nat) (ov iv : Value) (wr : World) : Prop :=
 ∃ k : Nat, ov = o0 ∧ iv = .int .i64 k ∧ k ≤ ne ∧ gk = ne - k ∧ Hid (Blk wr w.heap.size 30 NN) ∧ Hid (Below w4.heap.size w4 wr) ∧ Hid (Below w6.heap.size w6 wr) ∧ Hid (∀ (t : Nat) (d : Int), t < k → er[t]? = some d → ¬ (aAt ds d = v ∧ hit))
theorem fl_yes {n : Nat} {R : Int → Prop} {p : Int → Bool} (h : R n) (hp : p n = true) : (nodesL (n + 1) R).filter p = (nodesL n R).filter p ++ [(n : Int)] := by rw [nodesL_yes h, List.filter_append]; simp [hp]
theorem fl_no {n : Nat} {R : Int → Prop} {p : Int → Bool} (h : ¬ (R n ∧ p n = true)) : (nodesL (n + 1) R).filter p = (nodesL n R).filter p := by
 rw [nodesL_succ]
 split
 ·next hr =>
  have : p n = false := by simpa using fun e => h ⟨hr, e⟩
  rw [List.filter_append]; simp [this]
 ·rw [List.append_nil]
theorem aAt_at {ds : List Dv} {x : Dv} {i : Nat} (h : ds[i]? = some x) : aAt ds (i : Int) = x.a := by unfold aAt; rw [Int.toNat_natCast, h]
theorem cntB_iff (ds : List Dv) (er : List Int) (v : Int) : cntB ds er v = true ↔ ∃ d ∈ er, aAt ds d = v := by unfold cntB; rw [List.any_eq_true]; simp
theorem rCounted_any (An Ad Al Az : Option Addr) (nn cn nd cd nl cl n c : Nat) (ns : List Nd) (ds : List Dv) (ls : List Lk) (z : List Int) (w : World) (_hl : Laid w) (hn : Sl w w.heap.size 3 An nn cn (ns.flatMap Nd.cells)) (hd : Sl w w.heap.size 5 Ad nd cd (ds.flatMap Dv.cells)) (hs : Sl w w.heap.size 3 Al nl cl (ls.flatMap Lk.cells)) (hz : Sl w w.heap.size 1 Az n c (intsV z))
 (hsn : ∀ x ∈ ns, x.name.size ≤ 9223372036854775807) (hsd : ∀ x ∈ ds, x.name.size ≤ 9223372036854775807) (_hnz : n ≤ 10000) (hnd : nd ≤ 1000) :
 Calls Tryz.prog 94 #[.agg #[.slice An nn cn, .slice Ad nd cd], .slice Al nl cl, .slice Az n c] w (ListPost w (sideErr ns ds ls z) (cntL ns ds ls z)) := by
 have HLD := Lib.hid (hd.len (fun _ => rfl) (by decide))
 have HLN := Lib.hid (hn.len (fun _ => rfl) (by decide))
 have hdl := hd.le
 have HB : Hid (Below w.heap.size w (w.alloc (.cells #[.slice An nn cn, .slice Ad nd cd] 30))) := (Below.refl _ _).alloc (Nat.le_refl _) _
 have HK := Lib.hid (Blk.new w 30 #[.slice An nn cn, .slice Ad nd cd])
 have HER := Lib.hid (rearths_any An Ad Al nn cn nd cd nl cl w.heap.size w.heap.size w.heap.size ns ds ls (w.alloc (.cells #[.slice An nn cn, .slice Ad nd cd] 30)) (hn.alloc (Nat.le_refl _) _) (hd.alloc (Nat.le_refl _) _) (hs.alloc (Nat.le_refl _) _) (by simp) (by simp) (by simp) hnd hsn hsd)
 have HN := Lib.hid hn; have HD := Lib.hid hd; have HS := Lib.hid hs; have HZ := Lib.hid hz; have HSN := Lib.hid hsn; have HSD := Lib.hid hsd
 clear hn hd hs hz hsn hsd
 go_enter Tryz.func94, Tryz.ntmps94
 go_wp2_with fail
 generalize World.alloc w _ = W at *
 refine HER.out.mono ?_
 rintro e w1 ⟨hcase, hb1⟩
 have HB1 := Lib.hid (HB.out.trans (hb1.out.mono HB.out.size))
 have HK1 := Lib.hid (HK.out.below hb1.out HK.out.lt)
 clear HB HK HER
 rcases hcase with ⟨he, rfl⟩ | ⟨he, Ae, ce, rfl, hoe⟩
 ·have HE : Hid (sideErr ns ds ls z = locksErr ns ds ls) := by unfold Hid sideErr; rw [if_pos he]
  have q : (locksErr ns ds ls != 0) = true := by simpa using he
  have HNZ := Lib.hid he
  clear he hb1
  go_wp2_with fail
  go_ret2
  exact ⟨.inl ⟨by rw [HE.out]; exact HNZ.out, by rw [HE.out]; rfl⟩, HB1.out⟩
 have HZ0 := Lib.hid he
 have HE2 : Hid (sideErr ns ds ls z = zoneErr ns ds z) := by unfold Hid sideErr; rw [if_neg (by omega)]
 clear he hb1
 obtain ⟨er, hera⟩ : ∃ er, er = thoTo ds ls 2 (fun k => k == 4) nd := ⟨_, rfl⟩
 rw [← hera] at hoe ⊢
 have HERA := Lib.hid hera
 have HERR : Hid (∀ d ∈ er, 0 ≤ d ∧ d < nd) := fun d hd => tho_range (by rw [hera] at hd; exact hd)
 obtain ⟨ne, hnera⟩ : ∃ ne, ne = er.length := ⟨_, rfl⟩
 rw [← hnera] at hoe ⊢
 have HLE : Hid (er.length = ne) := hnera.symm
 clear hera hnera
 have HES := Lib.hid hoe.out.sl
 have hnec := HES.out.le
 have hz1 := HB1.out.size
 have k0 : w1.cell? ⟨w.heap.size, 0, none⟩ = some (.slice An nn cn) := HK1.out.cell 0
 have k1 : w1.cell? ⟨w.heap.size, 1, none⟩ = some (.slice Ad nd cd) := HK1.out.cell 1
 clear hoe
 go_wp2_with fail
 clear k0 k1
 refine (rzcheck_any An Ad Az nn cn nd cd n c ns ds z w1 ((HN.out.below HB1.out (Nat.le_refl _)).more hz1) ((HD.out.below HB1.out (Nat.le_refl _)).more hz1) ((HZ.out.below HB1.out (Nat.le_refl _)).more hz1) HSN.out HSD.out).mono ?_
 rintro e w2 ⟨rfl, hb2⟩
 have HB2 := Lib.hid (HB1.out.trans (hb2.mono HB1.out.size)); have HK2 := Lib.hid (HK1.out.below hb2 HK1.out.lt)
 have HES2 := Lib.hid (HES.out.below hb2 (Nat.le_refl _))
 have hz2 := hb2.size
 clear hb2 HB1 HK1 HES
 by_cases he : zoneErr ns ds z = 0; rotate_left
 ·have q : (zoneErr ns ds z != 0) = true := by simpa using he
  have HNZ := Lib.hid he
  clear he
  go_wp2_with fail
  go_ret2
  exact ⟨.inl ⟨by rw [HE2.out]; exact HNZ.out, by rw [HE2.out]; rfl⟩, HB2.out⟩
 have HEZ := Lib.hid he
 obtain ⟨hck, hzp, hzr⟩ := zoneErr_zero he
 have HOK := Lib.hid (NetOk.of hck)
 have hnl := HOK.out.nl
 have hnn : nn ≤ 10000 := by have := HLN.out; omega
 have HZI : Hid (∀ v ∈ z, 0 ≤ v ∧ v < nn) := fun v hv => by have := ris_mem hzr v hv; rw [HLN.out] at this; omega
 have HEN : Hid (EndsOk nn ds) := by have := HOK.out.e; rw [HLN.out] at this; exact this
 rw [he]
 clear he hck hzp hzr hnl
 have k0 : w2.cell? ⟨w.heap.size, 0, none⟩ = some (.slice An nn cn) := HK2.out.cell 0
 have k1 : w2.cell? ⟨w.heap.size, 1, none⟩ = some (.slice Ad nd cd) := HK2.out.cell 1
 go_wp2_with fail
 clear k0 k1
 refine (rgaps_any An Ad Al nn cn nd cd nl cl w.heap.size w.heap.size w.heap.size ns ds ls w2 (HN.out.below HB2.out (Nat.le_refl _)) (HD.out.below HB2.out (Nat.le_refl _)) (HS.out.below HB2.out (Nat.le_refl _)) (by omega) (by omega) (by omega) hnd HSN.out HSD.out).mono ?_
 rintro e w3 ⟨⟨he3, _⟩ | ⟨_, Ag, cg, rfl, hog⟩, hb3⟩
 ·exact absurd HZ0.out he3
 have hz3 := hb3.out.size
 have HB3 := Lib.hid (HB2.out.trans (hb3.out.mono HB2.out.size))
 have HK3 := Lib.hid (HK2.out.below hb3.out HK2.out.lt)
 have HES3 := Lib.hid (HES2.out.below hb3.out hz2)
 obtain ⟨gs, hgs⟩ : ∃ gs, gs = thoTo ds ls 1 gapB nd := ⟨_, rfl⟩
 rw [← hgs] at hog ⊢
 have HGS : Hid (gs = gpsL ds ls) := by unfold Hid gpsL; rw [hgs, HLD.out]
 obtain ⟨ng, hng⟩ : ∃ ng, ng = gs.length := ⟨_, rfl⟩
 rw [← hng] at hog ⊢
 clear hgs hng hb3 HB2 HK2 HES2
 have k0 : w3.cell? ⟨w.heap.size, 0, none⟩ = some (.slice An nn cn) := HK3.out.cell 0
 have k1 : w3.cell? ⟨w.heap.size, 1, none⟩ = some (.slice Ad nd cd) := HK3.out.cell 1
 go_wp2_with fail
 clear k0 k1
 refine (rreach_any An Ad Az Ag nn cn nd cd n c ng cg ds z gs w3 ((HD.out.below HB3.out (Nat.le_refl _)).more HB3.out.size) ((HZ.out.below HB3.out (Nat.le_refl _)).more HB3.out.size) hog.out.sl hnn HEN.out HOK.out.ne HZI.out).mono ?_
 rintro e w4 ⟨AR, cr, rfl, hR, hb4⟩
 have HB4 := Lib.hid (HB3.out.trans (hb4.out.mono HB3.out.size))
 have HK4 := Lib.hid (HK3.out.below hb4.out HK3.out.lt)
 have HES4 := Lib.hid (HES3.out.below hb4.out (by omega))
 have hz4 := hb4.out.size
 have HRS := Lib.hid hR.out.sl
 obtain ⟨R, hRR⟩ : ∃ R, R = Rgn ds gs z := ⟨_, rfl⟩
 rw [← hRR] at HRS ⊢
 have HRR := Lib.hid hRR
 obtain ⟨rl, hrl⟩ : ∃ rl, rl = nodesL nn R := ⟨_, rfl⟩
 rw [← hrl] at HRS ⊢
 have HRL : Hid (∀ i : Nat, i < nn → (hasB rl (i : Int) = true ↔ R i)) := fun i hi => by rw [hasB_iff, hrl, nodesL_mem]; exact ⟨fun h => h.2.2, fun h => ⟨by omega, by omega, h⟩⟩
 obtain ⟨nr, hnr⟩ : ∃ nr, nr = rl.length := ⟨_, rfl⟩
 rw [← hnr] at HRS ⊢
 clear hRR hrl hnr hb4 hR hog HB3 HK3 HES3
 have hzz : w.heap.size ≤ w4.heap.size := HB4.out.size
 go_wp2_with fail
 have HKL : Hid (w.heap.size < w4.heap.size) := HK4.out.lt
 go_loopg [14, 15] nn (RtO w #[.slice An nn cn, .slice Ad nd cd] w4 nn ds er R)
 case atStart => exact ⟨0, 0, 0, none, rfl, rfl, Nat.zero_le _, rfl, Nat.le_refl _, HK4, Below.refl _ _, World.ownsRow_nil _ _ _ _⟩
 case round =>
  clear HK4
  obtain ⟨i, m, co, Ao, rfl, rfl, hi, rfl, hmi, hK, hB, hO⟩ := hrel
  have k0 : wr.cell? ⟨w.heap.size, 0, none⟩ = some (.slice An nn cn) := hK.out.cell 0
  by_cases hlt : i < nn; rotate_left
  ·obtain rfl : i = nn := by omega
   have hii : decide (i < i) = false := by simp
   go_wp2_with fail
   go_ret2
   refine ⟨.inr ⟨by rw [HE2.out, HEZ.out], Ao, m, co, rfl, ?_⟩, HB4.out.trans (hB.out.mono hzz)⟩
   have : cntL ns ds ls z = (nodesL i R).filter (cntB ds er) := by
    unfold cntL ersL
    rw [← HGS.out, HLD.out, ← HERA.out, HLN.out, HRR.out]
   rw [this]
   exact hO.out.mono hzz
  go_upto_region 13 with (fail)
  clear k0
  go_wp2_with fail
  go_loopg [14, 16] ne (RtI w #[.slice An nn cn, .slice Ad nd cd] w4 wr ne ds er (R (i : Int)) (i : Int) (.slice Ao m co))
  case atStart => exact ⟨0, rfl, rfl, Nat.zero_le _, rfl, hK, hB, Below.refl _ _, fun t d ht => by omega⟩
  case round =>
   clear hK hB
   obtain ⟨k, rfl, rfl, hk, rfl, hK, hB, hBw, hno⟩ := hrel
   by_cases hke : k < ne; rotate_left
   ·obtain rfl : k = ne := by omega
    have hii : decide (k < k) = false := by simp
    have HFL : Hid ((nodesL (i + 1) R).filter (cntB ds er) = (nodesL i R).filter (cntB ds er)) := fl_no fun h => by
     obtain ⟨d, hd, he⟩ := (cntB_iff _ _ _).1 h.2
     obtain ⟨t, ht⟩ := List.getElem?_of_mem hd
     exact hno.out t d (by have := (List.getElem?_eq_some_iff.1 ht).1; have := HLE.out; omega) ht ⟨he, h.1⟩
    have HO2 := Lib.hid (hO.out.later hBw.out)
    go_wp2_with fail
    go_roundg (nn - (i + 1))
    case rel => exact ⟨i + 1, m, co, Ao, rfl, by go_num, by omega, rfl, by omega, hK, hB, by rw [HFL.out]; exact HO2⟩
    case measure => omega
   obtain ⟨be, oe, d, rfl, hbe, hxe, hce⟩ := (HES4.out.below hB.out (by omega)).at1 hke
   have hdr := HERR.out d (List.mem_of_getElem? hxe)
   obtain ⟨d, rfl⟩ := Int.eq_ofNat_of_zero_le hdr.1
   have hdn : d < nd := by omega
   have HXE := Lib.hid hxe
   obtain ⟨b0, off, x, rfl, hb0, hx, hcx⟩ := (HD.out.below (HB4.out.trans (hB.out.mono hzz)) (Nat.le_refl _)).at (k := d) (fun _ => rfl) (by decide) hdn
   have HAA := Lib.hid (aAt_at hx)
   obtain ⟨nm, kd, xa, xb, co2⟩ := x
   have c2 : wr.cell? ⟨b0, off + d * 5 + 2, none⟩ = some (.int .i64 xa) := hcx 2 _ rfl
   have HCS : Hid (wr.cell? ⟨w.heap.size, 1, none⟩ = some (.slice (some ⟨b0, off, none⟩) nd cd) ∧ wr.cell? ⟨be, oe + k, none⟩ = some (.int .i64 (d : Int)) ∧ wr.cell? ⟨b0, off + d * 5 + 2, none⟩ = some (.int .i64 xa)) := ⟨hK.out.cell 1, hce, c2⟩
   have HRG : Hid (Sl wr.drew wr.drew.heap.size 1 AR nr cr (intsV rl)) := (HRS.out.below hB.out.drew (Nat.le_refl _)).more hB.out.drew.size
   have HRH := Lib.hid (rhasq_any AR nr cr rl (i : Int) wr.drew HRG.out)
   clear hx hcx hce hxe hdr c2
   by_cases hav : xa = (i : Int); rotate_left
   ·have q : (xa == (i : Int)) = false := by simpa using hav
    have HNH : Hid (∀ (t : Nat) (u : Int), t < k + 1 → er[t]? = some u → ¬ (aAt ds u = (i : Int) ∧ R (i : Int))) := fun t u ht hu hh => (Nat.lt_succ_iff_lt_or_eq.1 ht).elim (fun h => hno.out t u h hu hh) (fun h => by rw [h, HXE.out] at hu; injection hu with hu; rw [← hu, HAA.out] at hh; exact hav hh.1)
    clear hav
    go_upto_region 16 with (fail)
    refine wp_region_ord (S := fun W' => W'.cell? ⟨w.heap.size, 1, none⟩ = some (.slice (some ⟨b0, off, none⟩) nd cd) ∧ W'.cell? ⟨be, oe + k, none⟩ = some (.int .i64 (d : Int)) ∧ W'.cell? ⟨b0, off + d * 5 + 2, none⟩ = some (.int .i64 xa)) (J := []) (n := _) ((0, true) :: (1, true) :: (2, true) :: (3, true) :: (4, true) :: (5, true) :: (6, true) :: (7, true) :: (8, true) :: (9, true) :: (10, true) :: (11, true) :: (12, true) :: (13, true) :: (14, true) :: (15, true) :: []) (by as_aux_lemma => kernel_rfl) (by rfl) (base_cons (k := 3) (by go_simp; rfl) (base_cons (k := 8) (by go_simp; rfl) (base_cons (k := 16) (by go_simp; rfl) (base_cons (k := 15) (by go_simp; rfl) base_nil)))) ?_ (fun _ _ _ _ _ h => h) (fun Q2 A hsz hbase hn2 hHeld => ?_)
    ·exact HCS.out
    try dsimp only at hHeld
    obtain ⟨b3, b8, b16, b15, -⟩ := hbase
    refine ord_take (i := 0) (d := 55) (v := ?_) rfl rfl (wanted_none rfl) hHeld (fun ρ hρ w hSw => ?_) ?_
    rotate_left
    ·(have e3 := Eq.trans (hρ.tmp hsz 3 rfl) (lkp_base b3); clear hρ; (try dsimp only at hSw); go_simp; try with_reducible rfl)
    show wpOrd _ _ _ _ _ _ _ _
    refine ord_take (i := 1) (d := 56) (v := ?_) rfl rfl (wanted_none rfl) hHeld (fun ρ hρ w hSw => ?_) ?_
    rotate_left
    ·(have e55 := Eq.trans (hρ.tmp hsz 55 rfl) lkp_hit; clear hρ; (try dsimp only at hSw); have k1 := hSw.1; clear hSw; go_simp; try with_reducible rfl)
    show wpOrd _ _ _ _ _ _ _ _
    refine ord_move (i := 2) (d := 57) (v := ?_) rfl rfl rfl (wanted_none rfl) hHeld (fun ρ hρ => ?_) ?_
    rotate_left
    ·(have e8 := Eq.trans (hρ.tmp hsz 8 rfl) (miss1 rfl (miss1 rfl (lkp_base b8))); exact e8)
    show wpOrd _ _ _ _ _ _ _ _
    refine ord_move (i := 3) (d := 58) (v := ?_) rfl rfl rfl (wanted_none rfl) hHeld (fun ρ hρ => ?_) ?_
    rotate_left
    ·(have e16 := Eq.trans (hρ.tmp hsz 16 rfl) (miss1 rfl (miss1 rfl (miss1 rfl (lkp_base b16)))); exact e16)
    show wpOrd _ _ _ _ _ _ _ _
    refine ord_take (i := 4) (d := 59) (v := ?_) rfl rfl (wanted_none rfl) hHeld (fun ρ hρ w hSw => ?_) ?_
    rotate_left
    ·(have e57 := Eq.trans (hρ.tmp hsz 57 rfl) (miss1 rfl lkp_hit); have e58 := Eq.trans (hρ.tmp hsz 58 rfl) lkp_hit; clear hρ; (try dsimp only at hSw); go_simp; try with_reducible rfl)
    show wpOrd _ _ _ _ _ _ _ _
    refine ord_take (i := 5) (d := 60) (v := ?_) rfl rfl (wanted_none rfl) hHeld (fun ρ hρ w hSw => ?_) ?_
    rotate_left
    ·(have e59 := Eq.trans (hρ.tmp hsz 59 rfl) lkp_hit; clear hρ; (try dsimp only at hSw); have ke := hSw.2.1; clear hSw; go_simp; try with_reducible rfl)
    show wpOrd _ _ _ _ _ _ _ _
    refine ord_take (i := 6) (d := 61) (v := ?_) rfl rfl (wanted_none rfl) hHeld (fun ρ hρ w hSw => ?_) ?_
    rotate_left
    ·(have e56 := Eq.trans (hρ.tmp hsz 56 rfl) (miss4 rfl rfl rfl rfl lkp_hit); have e60 := Eq.trans (hρ.tmp hsz 60 rfl) lkp_hit; clear hρ; (try dsimp only at hSw); go_simp; try with_reducible rfl)
    show wpOrd _ _ _ _ _ _ _ _
    refine ord_take (i := 7) (d := 62) (v := ?_) rfl rfl (wanted_none rfl) hHeld (fun ρ hρ w hSw => ?_) ?_
    rotate_left
    ·(have e61 := Eq.trans (hρ.tmp hsz 61 rfl) lkp_hit; clear hρ; (try dsimp only at hSw); go_simp; try with_reducible rfl)
    show wpOrd _ _ _ _ _ _ _ _
    refine ord_take (i := 8) (d := 63) (v := ?_) rfl rfl (wanted_none rfl) hHeld (fun ρ hρ w hSw => ?_) ?_
    rotate_left
    ·(have e62 := Eq.trans (hρ.tmp hsz 62 rfl) lkp_hit; clear hρ; (try dsimp only at hSw); have ka := hSw.2.2; clear hSw; go_simp; try with_reducible rfl)
    show wpOrd _ _ _ _ _ _ _ _
    refine ord_move (i := 9) (d := 64) (v := ?_) rfl rfl rfl (wanted_none rfl) hHeld (fun ρ hρ => ?_) ?_
    rotate_left
    ·(have e15 := Eq.trans (hρ.tmp hsz 15 rfl) (miss4 rfl rfl rfl rfl (miss4 rfl rfl rfl rfl (miss1 rfl (lkp_base b15)))); exact e15)
    show wpOrd _ _ _ _ _ _ _ _
    refine ord_take (i := 10) (d := 65) (v := ?_) rfl rfl (wanted_none rfl) hHeld (fun ρ hρ w hSw => ?_) ?_
    rotate_left
    ·(have e63 := Eq.trans (hρ.tmp hsz 63 rfl) (miss1 rfl lkp_hit); have e64 := Eq.trans (hρ.tmp hsz 64 rfl) lkp_hit; clear hρ; (try dsimp only at hSw); go_simp; try with_reducible rfl)
    show wpOrd _ _ _ _ _ _ _ _
    refine ord_move (i := 11) (d := 66) (v := ?_) rfl rfl rfl (wanted_none rfl) hHeld (fun ρ hρ => ?_) ?_
    rotate_left
    ·(have e65 := Eq.trans (hρ.tmp hsz 65 rfl) lkp_hit; exact e65)
    show wpOrd _ _ _ _ _ _ _ _
    refine ord_skip (i := 12) (d := 67) rfl rfl (wanted_no (j := 11) (dj := 66) (b := true) (b' := false) rfl hsz rfl rfl rfl lkp_hit rfl) hHeld ?_
    show wpOrd _ _ _ _ _ _ _ _
    refine ord_skip (i := 13) (d := 68) rfl rfl (wanted_no (j := 11) (dj := 66) (b := true) (b' := false) rfl hsz rfl rfl rfl (miss1 rfl lkp_hit) rfl) hHeld ?_
    show wpOrd _ _ _ _ _ _ _ _
    refine ord_skip (i := 14) (d := 69) rfl rfl (wanted_no (j := 11) (dj := 66) (b := true) (b' := false) rfl hsz rfl rfl rfl (miss1 rfl (miss1 rfl lkp_hit)) rfl) hHeld ?_
    show wpOrd _ _ _ _ _ _ _ _
    refine ord_take (i := 15) (d := 70) (v := ?_) rfl rfl (wanted_none rfl) hHeld (fun ρ hρ w hSw => ?_) ?_
    rotate_left
    ·(have hc := hρ.const; have e66 := Eq.trans (hρ.tmp hsz 66 rfl) (miss1 rfl (miss1 rfl (miss1 rfl lkp_hit))); have e69 := Eq.trans (hρ.tmp hsz 69 rfl) lkp_hit; clear hρ; (try dsimp only at hSw); go_simp; try with_reducible rfl)
    show wpOrd _ _ _ _ _ _ _ _
    refine ord_done hn2 ?_
    clear hHeld hn2 b3 b8 b16 b15 hsz A Q2
    simp only [puts_nil, puts_cons, put_lit, set_1, set_0]
    clear q
    go_wp2_with fail
    go_roundg (ne - (k + 1))
    case rel => exact ⟨k + 1, rfl, by go_num, by omega, rfl, hK, hB.out.drew, hBw.out.drew, HNH⟩
    case measure => omega
   have q : (xa == (i : Int)) = true := by simpa using hav
   rcases hh : hasB rl (i : Int) with _ | _
   ·have HNR : Hid (¬ R (i : Int)) := fun h => by have := (HRL.out i hlt).2 h; rw [hh] at this; cases this
    have HNH : Hid (∀ (t : Nat) (u : Int), t < k + 1 → er[t]? = some u → ¬ (aAt ds u = (i : Int) ∧ R (i : Int))) := fun t u _ _ hx => HNR.out hx.2
    have HHB := Lib.hid hh
    clear hav hh
    go_upto_region 16 with (fail)
    refine wp_region_ord (S := fun W' => W'.cell? ⟨w.heap.size, 1, none⟩ = some (.slice (some ⟨b0, off, none⟩) nd cd) ∧ W'.cell? ⟨be, oe + k, none⟩ = some (.int .i64 (d : Int)) ∧ W'.cell? ⟨b0, off + d * 5 + 2, none⟩ = some (.int .i64 xa)) (J := []) (n := _) ((0, true) :: (1, true) :: (2, true) :: (3, true) :: (4, true) :: (5, true) :: (6, true) :: (7, true) :: (8, true) :: (9, true) :: (10, true) :: (11, true) :: (12, true) :: (13, true) :: (14, false) :: (15, true) :: []) (by as_aux_lemma => kernel_rfl) (by rfl) (base_cons (k := 3) (by go_simp; rfl) (base_cons (k := 8) (by go_simp; rfl) (base_cons (k := 16) (by go_simp; rfl) (base_cons (k := 15) (by go_simp; rfl) (base_cons (k := 13) (by go_simp; rfl) base_nil))))) ?_ (fun _ _ _ _ _ h => h) (fun Q2 A hsz hbase hn2 hHeld => ?_)
    ·exact HCS.out
    try dsimp only at hHeld
    obtain ⟨b3, b8, b16, b15, b13, -⟩ := hbase
    refine ord_take (i := 0) (d := 55) (v := ?_) rfl rfl (wanted_none rfl) hHeld (fun ρ hρ w hSw => ?_) ?_
    rotate_left
    ·(have e3 := Eq.trans (hρ.tmp hsz 3 rfl) (lkp_base b3); clear hρ; (try dsimp only at hSw); go_simp; try with_reducible rfl)
    show wpOrd _ _ _ _ _ _ _ _
    refine ord_take (i := 1) (d := 56) (v := ?_) rfl rfl (wanted_none rfl) hHeld (fun ρ hρ w hSw => ?_) ?_
    rotate_left
    ·(have e55 := Eq.trans (hρ.tmp hsz 55 rfl) lkp_hit; clear hρ; (try dsimp only at hSw); have k1 := hSw.1; clear hSw; go_simp; try with_reducible rfl)
    show wpOrd _ _ _ _ _ _ _ _
    refine ord_move (i := 2) (d := 57) (v := ?_) rfl rfl rfl (wanted_none rfl) hHeld (fun ρ hρ => ?_) ?_
    rotate_left
    ·(have e8 := Eq.trans (hρ.tmp hsz 8 rfl) (miss1 rfl (miss1 rfl (lkp_base b8))); exact e8)
    show wpOrd _ _ _ _ _ _ _ _
    refine ord_move (i := 3) (d := 58) (v := ?_) rfl rfl rfl (wanted_none rfl) hHeld (fun ρ hρ => ?_) ?_
    rotate_left
    ·(have e16 := Eq.trans (hρ.tmp hsz 16 rfl) (miss1 rfl (miss1 rfl (miss1 rfl (lkp_base b16)))); exact e16)
    show wpOrd _ _ _ _ _ _ _ _
    refine ord_take (i := 4) (d := 59) (v := ?_) rfl rfl (wanted_none rfl) hHeld (fun ρ hρ w hSw => ?_) ?_
    rotate_left
    ·(have e57 := Eq.trans (hρ.tmp hsz 57 rfl) (miss1 rfl lkp_hit); have e58 := Eq.trans (hρ.tmp hsz 58 rfl) lkp_hit; clear hρ; (try dsimp only at hSw); go_simp; try with_reducible rfl)
    show wpOrd _ _ _ _ _ _ _ _
    refine ord_take (i := 5) (d := 60) (v := ?_) rfl rfl (wanted_none rfl) hHeld (fun ρ hρ w hSw => ?_) ?_
    rotate_left
    ·(have e59 := Eq.trans (hρ.tmp hsz 59 rfl) lkp_hit; clear hρ; (try dsimp only at hSw); have ke := hSw.2.1; clear hSw; go_simp; try with_reducible rfl)
    show wpOrd _ _ _ _ _ _ _ _
    refine ord_take (i := 6) (d := 61) (v := ?_) rfl rfl (wanted_none rfl) hHeld (fun ρ hρ w hSw => ?_) ?_
    rotate_left
    ·(have e56 := Eq.trans (hρ.tmp hsz 56 rfl) (miss4 rfl rfl rfl rfl lkp_hit); have e60 := Eq.trans (hρ.tmp hsz 60 rfl) lkp_hit; clear hρ; (try dsimp only at hSw); go_simp; try with_reducible rfl)
    show wpOrd _ _ _ _ _ _ _ _
    refine ord_take (i := 7) (d := 62) (v := ?_) rfl rfl (wanted_none rfl) hHeld (fun ρ hρ w hSw => ?_) ?_
    rotate_left
    ·(have e61 := Eq.trans (hρ.tmp hsz 61 rfl) lkp_hit; clear hρ; (try dsimp only at hSw); go_simp; try with_reducible rfl)
    show wpOrd _ _ _ _ _ _ _ _
    refine ord_take (i := 8) (d := 63) (v := ?_) rfl rfl (wanted_none rfl) hHeld (fun ρ hρ w hSw => ?_) ?_
    rotate_left
    ·(have e62 := Eq.trans (hρ.tmp hsz 62 rfl) lkp_hit; clear hρ; (try dsimp only at hSw); have ka := hSw.2.2; clear hSw; go_simp; try with_reducible rfl)
    show wpOrd _ _ _ _ _ _ _ _
    refine ord_move (i := 9) (d := 64) (v := ?_) rfl rfl rfl (wanted_none rfl) hHeld (fun ρ hρ => ?_) ?_
    rotate_left
    ·(have e15 := Eq.trans (hρ.tmp hsz 15 rfl) (miss4 rfl rfl rfl rfl (miss4 rfl rfl rfl rfl (miss1 rfl (lkp_base b15)))); exact e15)
    show wpOrd _ _ _ _ _ _ _ _
    refine ord_take (i := 10) (d := 65) (v := ?_) rfl rfl (wanted_none rfl) hHeld (fun ρ hρ w hSw => ?_) ?_
    rotate_left
    ·(have e63 := Eq.trans (hρ.tmp hsz 63 rfl) (miss1 rfl lkp_hit); have e64 := Eq.trans (hρ.tmp hsz 64 rfl) lkp_hit; clear hρ; (try dsimp only at hSw); go_simp; try with_reducible rfl)
    show wpOrd _ _ _ _ _ _ _ _
    refine ord_move (i := 11) (d := 66) (v := ?_) rfl rfl rfl (wanted_none rfl) hHeld (fun ρ hρ => ?_) ?_
    rotate_left
    ·(have e65 := Eq.trans (hρ.tmp hsz 65 rfl) lkp_hit; exact e65)
    show wpOrd _ _ _ _ _ _ _ _
    refine ord_move (i := 12) (d := 67) (v := ?_) rfl rfl rfl (wanted_yes (j := 11) (dj := 66) (b := true) rfl hsz rfl rfl rfl lkp_hit) hHeld (fun ρ hρ => ?_) ?_
    rotate_left
    ·(have e13 := Eq.trans (hρ.tmp hsz 13 rfl) (miss4 rfl rfl rfl rfl (miss4 rfl rfl rfl rfl (miss4 rfl rfl rfl rfl (lkp_base b13)))); exact e13)
    show wpOrd _ _ _ _ _ _ _ _
    refine ord_move (i := 13) (d := 68) (v := ?_) rfl rfl rfl (wanted_yes (j := 11) (dj := 66) (b := true) rfl hsz rfl rfl rfl (miss1 rfl lkp_hit)) hHeld (fun ρ hρ => ?_) ?_
    rotate_left
    ·(have e15 := Eq.trans (hρ.tmp hsz 15 rfl) (miss4 rfl rfl rfl rfl (miss4 rfl rfl rfl rfl (miss4 rfl rfl rfl rfl (miss1 rfl (lkp_base b15))))); exact e15)
    show wpOrd _ _ _ _ _ _ _ _
    refine ord_call (i := 14) (d := 69) (vs := ?_) rfl rfl rfl (wanted_yes (j := 11) (dj := 66) (b := true) rfl hsz rfl rfl rfl (miss1 rfl (miss1 rfl lkp_hit))) (fun ρ hρ => ?_) ?_ ?_
    rotate_left
    ·(have e67 := Eq.trans (hρ.tmp hsz 67 rfl) (miss1 rfl lkp_hit); have e68 := Eq.trans (hρ.tmp hsz 68 rfl) lkp_hit; simp only [List.map_toArray, List.map_cons, List.map_nil, e67, e68]; try with_reducible rfl)
    ·(intro w; go_simp)
    refine HRH.out.mono ?_
    rintro e w7 ⟨rfl, rfl⟩
    rw [HHB.out]
    refine ⟨_, rfl, fun _ => ?_, fun hHeld' => ?_⟩
    ·exact HCS.out
    replace hHeld := hHeld' rfl
    clear hHeld'
    try dsimp only at hHeld
    show wpOrd _ _ _ _ _ _ _ _
    refine ord_take (i := 15) (d := 70) (v := ?_) rfl rfl (wanted_none rfl) hHeld (fun ρ hρ w hSw => ?_) ?_
    rotate_left
    ·(have hc := hρ.const; have e66 := Eq.trans (hρ.tmp hsz 66 rfl) (miss1 rfl (miss1 rfl (miss1 rfl lkp_hit))); have e69 := Eq.trans (hρ.tmp hsz 69 rfl) lkp_hit; clear hρ; (try dsimp only at hSw); go_simp; try with_reducible rfl)
    show wpOrd _ _ _ _ _ _ _ _
    refine ord_done hn2 ?_
    clear hHeld hn2 b3 b8 b16 b15 b13 hsz A Q2
    simp only [puts_nil, puts_cons, put_lit, set_1, set_0]
    clear q
    go_wp2_with fail
    go_roundg (ne - (k + 1))
    case rel => exact ⟨k + 1, rfl, by go_num, by omega, rfl, hK, hB.out.drew, hBw.out.drew, HNH⟩
    case measure => omega
   ·have HFL : Hid ((nodesL (i + 1) R).filter (cntB ds er) = (nodesL i R).filter (cntB ds er) ++ [(i : Int)]) := fl_yes ((HRL.out i hlt).1 hh) ((cntB_iff _ _ _).2 ⟨d, List.mem_of_getElem? HXE.out, by rw [HAA.out]; exact hav⟩)
    have HHB := Lib.hid hh
    have HO2 := Lib.hid ((hO.out.later hBw.out).drew)
    have HB5 := Lib.hid hB.out.drew
    have HK5 : Hid (Blk wr.drew w.heap.size 30 #[.slice An nn cn, .slice (some ⟨b0, off, none⟩) nd cd]) := hK.out
    clear hav hh
    go_upto_region 16 with (fail)
    refine wp_region_ord (S := fun W' => W'.cell? ⟨w.heap.size, 1, none⟩ = some (.slice (some ⟨b0, off, none⟩) nd cd) ∧ W'.cell? ⟨be, oe + k, none⟩ = some (.int .i64 (d : Int)) ∧ W'.cell? ⟨b0, off + d * 5 + 2, none⟩ = some (.int .i64 xa)) (J := []) (n := _) ((0, true) :: (1, true) :: (2, true) :: (3, true) :: (4, true) :: (5, true) :: (6, true) :: (7, true) :: (8, true) :: (9, true) :: (10, true) :: (11, true) :: (12, true) :: (13, true) :: (14, false) :: (15, true) :: []) (by as_aux_lemma => kernel_rfl) (by rfl) (base_cons (k := 3) (by go_simp; rfl) (base_cons (k := 8) (by go_simp; rfl) (base_cons (k := 16) (by go_simp; rfl) (base_cons (k := 15) (by go_simp; rfl) (base_cons (k := 13) (by go_simp; rfl) base_nil))))) ?_ (fun _ _ _ _ _ h => h) (fun Q2 A hsz hbase hn2 hHeld => ?_)
    ·exact HCS.out
    try dsimp only at hHeld
    obtain ⟨b3, b8, b16, b15, b13, -⟩ := hbase
    refine ord_take (i := 0) (d := 55) (v := ?_) rfl rfl (wanted_none rfl) hHeld (fun ρ hρ w hSw => ?_) ?_
    rotate_left
    ·(have e3 := Eq.trans (hρ.tmp hsz 3 rfl) (lkp_base b3); clear hρ; (try dsimp only at hSw); go_simp; try with_reducible rfl)
    show wpOrd _ _ _ _ _ _ _ _
    refine ord_take (i := 1) (d := 56) (v := ?_) rfl rfl (wanted_none rfl) hHeld (fun ρ hρ w hSw => ?_) ?_
    rotate_left
    ·(have e55 := Eq.trans (hρ.tmp hsz 55 rfl) lkp_hit; clear hρ; (try dsimp only at hSw); have k1 := hSw.1; clear hSw; go_simp; try with_reducible rfl)
    show wpOrd _ _ _ _ _ _ _ _
    refine ord_move (i := 2) (d := 57) (v := ?_) rfl rfl rfl (wanted_none rfl) hHeld (fun ρ hρ => ?_) ?_
    rotate_left
    ·(have e8 := Eq.trans (hρ.tmp hsz 8 rfl) (miss1 rfl (miss1 rfl (lkp_base b8))); exact e8)
    show wpOrd _ _ _ _ _ _ _ _
    refine ord_move (i := 3) (d := 58) (v := ?_) rfl rfl rfl (wanted_none rfl) hHeld (fun ρ hρ => ?_) ?_
    rotate_left
    ·(have e16 := Eq.trans (hρ.tmp hsz 16 rfl) (miss1 rfl (miss1 rfl (miss1 rfl (lkp_base b16)))); exact e16)
    show wpOrd _ _ _ _ _ _ _ _
    refine ord_take (i := 4) (d := 59) (v := ?_) rfl rfl (wanted_none rfl) hHeld (fun ρ hρ w hSw => ?_) ?_
    rotate_left
    ·(have e57 := Eq.trans (hρ.tmp hsz 57 rfl) (miss1 rfl lkp_hit); have e58 := Eq.trans (hρ.tmp hsz 58 rfl) lkp_hit; clear hρ; (try dsimp only at hSw); go_simp; try with_reducible rfl)
    show wpOrd _ _ _ _ _ _ _ _
    refine ord_take (i := 5) (d := 60) (v := ?_) rfl rfl (wanted_none rfl) hHeld (fun ρ hρ w hSw => ?_) ?_
    rotate_left
    ·(have e59 := Eq.trans (hρ.tmp hsz 59 rfl) lkp_hit; clear hρ; (try dsimp only at hSw); have ke := hSw.2.1; clear hSw; go_simp; try with_reducible rfl)
    show wpOrd _ _ _ _ _ _ _ _
    refine ord_take (i := 6) (d := 61) (v := ?_) rfl rfl (wanted_none rfl) hHeld (fun ρ hρ w hSw => ?_) ?_
    rotate_left
    ·(have e56 := Eq.trans (hρ.tmp hsz 56 rfl) (miss4 rfl rfl rfl rfl lkp_hit); have e60 := Eq.trans (hρ.tmp hsz 60 rfl) lkp_hit; clear hρ; (try dsimp only at hSw); go_simp; try with_reducible rfl)
    show wpOrd _ _ _ _ _ _ _ _
    refine ord_take (i := 7) (d := 62) (v := ?_) rfl rfl (wanted_none rfl) hHeld (fun ρ hρ w hSw => ?_) ?_
    rotate_left
    ·(have e61 := Eq.trans (hρ.tmp hsz 61 rfl) lkp_hit; clear hρ; (try dsimp only at hSw); go_simp; try with_reducible rfl)
    show wpOrd _ _ _ _ _ _ _ _
    refine ord_take (i := 8) (d := 63) (v := ?_) rfl rfl (wanted_none rfl) hHeld (fun ρ hρ w hSw => ?_) ?_
    rotate_left
    ·(have e62 := Eq.trans (hρ.tmp hsz 62 rfl) lkp_hit; clear hρ; (try dsimp only at hSw); have ka := hSw.2.2; clear hSw; go_simp; try with_reducible rfl)
    show wpOrd _ _ _ _ _ _ _ _
    refine ord_move (i := 9) (d := 64) (v := ?_) rfl rfl rfl (wanted_none rfl) hHeld (fun ρ hρ => ?_) ?_
    rotate_left
    ·(have e15 := Eq.trans (hρ.tmp hsz 15 rfl) (miss4 rfl rfl rfl rfl (miss4 rfl rfl rfl rfl (miss1 rfl (lkp_base b15)))); exact e15)
    show wpOrd _ _ _ _ _ _ _ _
    refine ord_take (i := 10) (d := 65) (v := ?_) rfl rfl (wanted_none rfl) hHeld (fun ρ hρ w hSw => ?_) ?_
    rotate_left
    ·(have e63 := Eq.trans (hρ.tmp hsz 63 rfl) (miss1 rfl lkp_hit); have e64 := Eq.trans (hρ.tmp hsz 64 rfl) lkp_hit; clear hρ; (try dsimp only at hSw); go_simp; try with_reducible rfl)
    show wpOrd _ _ _ _ _ _ _ _
    refine ord_move (i := 11) (d := 66) (v := ?_) rfl rfl rfl (wanted_none rfl) hHeld (fun ρ hρ => ?_) ?_
    rotate_left
    ·(have e65 := Eq.trans (hρ.tmp hsz 65 rfl) lkp_hit; exact e65)
    show wpOrd _ _ _ _ _ _ _ _
    refine ord_move (i := 12) (d := 67) (v := ?_) rfl rfl rfl (wanted_yes (j := 11) (dj := 66) (b := true) rfl hsz rfl rfl rfl lkp_hit) hHeld (fun ρ hρ => ?_) ?_
    rotate_left
    ·(have e13 := Eq.trans (hρ.tmp hsz 13 rfl) (miss4 rfl rfl rfl rfl (miss4 rfl rfl rfl rfl (miss4 rfl rfl rfl rfl (lkp_base b13)))); exact e13)
    show wpOrd _ _ _ _ _ _ _ _
    refine ord_move (i := 13) (d := 68) (v := ?_) rfl rfl rfl (wanted_yes (j := 11) (dj := 66) (b := true) rfl hsz rfl rfl rfl (miss1 rfl lkp_hit)) hHeld (fun ρ hρ => ?_) ?_
    rotate_left
    ·(have e15 := Eq.trans (hρ.tmp hsz 15 rfl) (miss4 rfl rfl rfl rfl (miss4 rfl rfl rfl rfl (miss4 rfl rfl rfl rfl (miss1 rfl (lkp_base b15))))); exact e15)
    show wpOrd _ _ _ _ _ _ _ _
    refine ord_call (i := 14) (d := 69) (vs := ?_) rfl rfl rfl (wanted_yes (j := 11) (dj := 66) (b := true) rfl hsz rfl rfl rfl (miss1 rfl (miss1 rfl lkp_hit))) (fun ρ hρ => ?_) ?_ ?_
    rotate_left
    ·(have e67 := Eq.trans (hρ.tmp hsz 67 rfl) (miss1 rfl lkp_hit); have e68 := Eq.trans (hρ.tmp hsz 68 rfl) lkp_hit; simp only [List.map_toArray, List.map_cons, List.map_nil, e67, e68]; try with_reducible rfl)
    ·(intro w; go_simp)
    refine HRH.out.mono ?_
    rintro e w7 ⟨rfl, rfl⟩
    rw [HHB.out]
    refine ⟨_, rfl, fun _ => ?_, fun hHeld' => ?_⟩
    ·exact HCS.out
    replace hHeld := hHeld' rfl
    clear hHeld'
    try dsimp only at hHeld
    show wpOrd _ _ _ _ _ _ _ _
    refine ord_take (i := 15) (d := 70) (v := ?_) rfl rfl (wanted_none rfl) hHeld (fun ρ hρ w hSw => ?_) ?_
    rotate_left
    ·(have hc := hρ.const; have e66 := Eq.trans (hρ.tmp hsz 66 rfl) (miss1 rfl (miss1 rfl (miss1 rfl lkp_hit))); have e69 := Eq.trans (hρ.tmp hsz 69 rfl) lkp_hit; clear hρ; (try dsimp only at hSw); go_simp; try with_reducible rfl)
    show wpOrd _ _ _ _ _ _ _ _
    refine ord_done hn2 ?_
    clear hHeld hn2 b3 b8 b16 b15 b13 hsz A Q2
    simp only [puts_nil, puts_cons, put_lit, set_1, set_0]
    clear q HRG HRH HCS hK hB
    generalize wr.drew = W6 at *
    have hz6 := HB5.out.size
    have HI3 := HO2
    go_wp2_with (at_builtin; go_must (refine wpList_app rfl (.tmp 71) (.tmp 73) rfl el_int (by rfl) (World.ownsRow.alloc HI3.out _) (by rfl) (Sl.newest (n := 1) (by simp) (by rfl) (by decide)) (by simp [Value.oneCell']) (by omega) (by omega) (by simp; omega) ?_; intro A2 co3 w8 hown5 hgr5 hat5; have HO5 := Lib.hid hown5; have HG5 := Lib.hid hgr5; clear hown5 hgr5 hat5))
    have HB8 : Hid (Below w4.heap.size w4 w8) := (HB5.out.alloc hz6 _).trans ⟨HG5.out.os, HG5.out.tape, HG5.out.output, HG5.out.size, fun t ht => HG5.out.block t (by simp; omega) (fun e => by have := (HI3.out.lt t e.symm).1; omega)⟩
    have HK8 : Hid (Blk w8 w.heap.size 30 #[.slice An nn cn, .slice (some ⟨b0, off, none⟩) nd cd]) := (HK5.out.alloc _).keep (HG5.out.block _ (by simp; have := HK5.out.lt; omega) (fun e => by have := (HI3.out.lt _ e.symm).1; have := HKL.out; omega))
    have HO8 : Hid (IntsO w8 w4.heap.size A2 (m + 1) co3 ((nodesL (i + 1) R).filter (cntB ds er))) := by
     unfold Hid
     rw [HFL.out]
     unfold IntsO
     rw [intsV_append]
     exact HO5.out
    go_roundg (nn - (i + 1))
    case rel => exact ⟨i + 1, m + 1, co3, A2, rfl, by go_num, by omega, rfl, by omega, HK8, HB8, HO8⟩
    case measure => omega
end Go.Proofs.YtepicjpdhpojnaaGreatDoor
