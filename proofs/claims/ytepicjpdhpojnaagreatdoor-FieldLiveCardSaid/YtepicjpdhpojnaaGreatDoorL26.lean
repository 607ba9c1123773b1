import Derived.Test.YtepicjpdhpojnaaGreatDoorL19
import Derived.Test.YtepicjpdhpojnaaGreatDoorL25
import Derived.Test.YtepicjpdhpojnaaGreatDoorL22
import Derived.Test.YtepicjpdhpojnaaGreatDoorL05
import Derived.Test.YtepicjpdhpojnaaGreatDoorL04
import Derived.Deep.RegionLaw
import Derived.Deep.RegionWith
import Derived.Deep.DrawnRows
import Derived.Deep.DeepCutAuto
set_option maxRecDepth 100000
set_option maxHeartbeats 8000000
namespace Go.Proofs.YtepicjpdhpojnaaGreatDoor
open Go.RowKit
def rkB (earths : Bool) (k : Int) : Bool := if earths then k == 4 else gapB k
def SmR (w : World) (N : Array Value) (ds : List Dv) (ls : List Lk) (pos : Int) (p : Int → Bool) (n gk : Nat) (ov iv : Value) (wr : World) : Prop := ∃ (i m c : Nat) (A : Option Addr), ov = .slice A m c ∧ iv = .int .i64 i ∧ i ≤ n ∧ gk = n - i ∧ m ≤ i ∧ Hid ((thoTo ds ls pos p i).length = m) ∧ Hid (IntsO wr (w.heap.size + 1) A m c (thoTo ds ls pos p i)) ∧ Hid (PcSt w N wr)
theorem rsome_any (es : Bool) (pos : Int) (An Ad Al : Option Addr) (nn cn nd cd n c Bd Bl : Nat) (ds : List Dv) (ls : List Lk) (w : World) (hd : Sl w Bd 5 Ad nd cd (ds.flatMap Dv.cells)) (hs : Sl w Bl 3 Al n c (ls.flatMap Lk.cells)) (hBd : Bd ≤ w.heap.size) (hBl : Bl ≤ w.heap.size) (hnd : nd ≤ 1000) :
 Calls Tryz.prog 61 #[.agg #[.slice An nn cn, .slice Ad nd cd], .slice Al n c, .int .i64 pos, .bool es] w fun e w' => (∃ (A : Option Addr) (c' : Nat), e = .returned (.slice A (thoTo ds ls pos (rkB es) nd).length c') ∧ Hid (IntsO w' w.heap.size A (thoTo ds ls pos (rkB es) nd).length c' (thoTo ds ls pos (rkB es) nd))) ∧ Hid (Below w.heap.size w w') := by
 have HS := Lib.hid hs; have HD := Lib.hid hd
 have hdl := hd.le
 have HST : Hid (PcSt w #[.slice An nn cn, .slice Ad nd cd] (w.alloc (.cells #[.slice An nn cn, .slice Ad nd cd] 30))) := ⟨Blk.new _ _ _, (Below.refl _ _).alloc (Nat.le_refl _) _⟩
 clear hd hs
 go_enter Tryz.func61, Tryz.ntmps61
 go_wp2_with fail
 generalize World.alloc _ _ = W at *
 go_loopg [9, 10] nd (SmR w #[.slice An nn cn, .slice Ad nd cd] ds ls pos (rkB es) nd)
 case atStart => exact ⟨0, 0, 0, none, rfl, rfl, Nat.zero_le _, rfl, Nat.le_refl _, rfl, World.ownsRow_nil _ _ _ _, HST⟩
 case round =>
  clear HST
  obtain ⟨i, m, c3, A, rfl, rfl, hi, rfl, hmi, hlen, hO, hst⟩ := hrel
  have k1 : wr.cell? ⟨w.heap.size, 1, none⟩ = some (.slice Ad nd cd) := hst.out.bn.cell 1
  by_cases hlt : i < nd
  ·go_wp2_with fail
   clear k1
   refine (rlocked_any Al n c Bl ls i wr (HS.out.below hst.out.bl hBl) (by have := hst.out.bl.size; omega)).mono ?_
   rintro e w3 ⟨rfl, hb3⟩
   have HS3 := Lib.hid (hst.out.later hb3)
   have HO3 := Lib.hid (hO.out.later hb3)
   clear hb3 hst hO
   obtain ⟨b, off, x, rfl, hb, hx, hc⟩ := (HD.out.below HS3.out.bl hBd).at (fun _ => rfl) (by decide) hlt
   have HKO := Lib.hid (kindOf_at hx)
   obtain ⟨nm, kd, xa, xb, co⟩ := x
   have c1 : w3.cell? ⟨b, off + i * 5 + 1, none⟩ = some (.int .i64 kd) := hc 1 _ rfl
   have k1 : w3.cell? ⟨w.heap.size, 1, none⟩ = some (.slice (some ⟨b, off, none⟩) nd cd) := HS3.out.bn.cell 1
   clear hc hx
   have HSU := Lib.hid (thoTo_succ ds ls pos (rkB es) i)
   have HTB : Hid (thoB ds ls pos (rkB es) i = (decide (lckL ls i = some pos) && rkB es kd)) := by unfold Hid thoB; rw [HKO.out]
   have hz3 := HS3.out.bn.lt
   unfold lckE
   rcases hl : lckL ls i with _ | pv
   ·have HF : Hid (thoTo ds ls pos (rkB es) (i + 1) = thoTo ds ls pos (rkB es) i) := by unfold Hid; rw [HSU.out, HTB.out, hl]; rfl
    clear hl
    simp only [Option.getD_none, Option.isSome_none]
    go_wp2_with fail
    go_roundg (nd - (i + 1))
    case rel => exact ⟨i + 1, m, c3, A, rfl, by go_num, by omega, rfl, by omega, by rw [HF.out]; exact hlen, by rw [HF.out]; exact HO3, HS3⟩
    case measure => omega
   ·simp only [Option.getD_some, Option.isSome_some]
    by_cases hpp : pv = pos; rotate_left
    ·have qp : (pv == pos) = false := by simpa using hpp
     have HF : Hid (thoTo ds ls pos (rkB es) (i + 1) = thoTo ds ls pos (rkB es) i) := by unfold Hid; rw [HSU.out, HTB.out, hl]; simp [hpp]
     clear hl hpp
     go_wp2_with fail
     go_roundg (nd - (i + 1))
     case rel => exact ⟨i + 1, m, c3, A, rfl, by go_num, by omega, rfl, by omega, by rw [HF.out]; exact hlen, by rw [HF.out]; exact HO3, HS3⟩
     case measure => omega
    subst hpp
    have qp : (pv == pv) = true := by simp
    have hHIT : rkB es kd = true → Hid (thoTo ds ls pv (rkB es) (i + 1) = thoTo ds ls pv (rkB es) i ++ [(i : Int)]) := fun h => by unfold Hid; rw [HSU.out, HTB.out, hl, h]; simp
    have hMISS : rkB es kd = false → Hid (thoTo ds ls pv (rkB es) (i + 1) = thoTo ds ls pv (rkB es) i) := fun h => by unfold Hid; rw [HSU.out, HTB.out, hl, h]; simp
    have HHIT := Lib.hid hHIT; have HMISS := Lib.hid hMISS
    clear hl hHIT hMISS
    have hr1 : ∀ b, (Value.slice A m c3).ownBlock = some b → w.heap.size + 1 ≤ b := fun b e => (HO3.out.lt b e).1
    have HR1 := Lib.hid hr1
    clear hr1
    rcases es with _ | _
    ·have hrk : rkB false kd = gapB kd := rfl
     rw [hrk] at HHIT HMISS
     have HGP := Lib.hid (rgap_any kd w3)
     rcases hg : gapB kd with _ | _
     ·rw [hg] at HGP HMISS
      have HF := HMISS.out rfl
      clear hg hrk HHIT HMISS
      go_wp2_with fail
      refine HGP.out.mono ?_
      rintro e w4 ⟨rfl, rfl⟩
      go_wp2_with fail
      go_roundg (nd - (i + 1))
      case rel => exact ⟨i + 1, m, c3, A, rfl, by go_num, by omega, rfl, by omega, by rw [HF.out]; exact hlen, by rw [HF.out]; exact HO3, HS3⟩
      case measure => omega
     ·rw [hg] at HGP HHIT
      have HF := HHIT.out rfl
      clear hg hrk HHIT HMISS
      go_wp2_with fail
      refine HGP.out.mono ?_
      rintro e w4 ⟨rfl, rfl⟩
      clear k1 c1 qp
      go_wp2_with (at_builtin; go_must (refine wpList_app rfl (.tmp 54) (.tmp 56) rfl el_int (by rfl) (World.ownsRow.alloc HO3.out _) (by rfl) (Sl.newest (n := 1) (by simp) (by rfl) (by decide)) (by simp [Value.oneCell']) (by omega) (by omega) (by simp; omega) ?_; intro A' cap' w5 hown5 hgr5 hat5; have HO5 := Lib.hid hown5; have HG5 := Lib.hid hgr5; clear hown5 hgr5 hat5))
      go_roundg (nd - (i + 1))
      case rel =>
       have hg5 := HG5.out
       have hb5 : Below (w.heap.size + 1) w3 w5 := ((Below.refl _ _).alloc hz3 _).trans ⟨hg5.os, hg5.tape, hg5.output, hg5.size, fun t ht => hg5.block t (by simp; omega) (fun e => by have := HR1.out t e.symm; omega)⟩
       refine ⟨i + 1, m + 1, cap', A', rfl, by go_num, by omega, rfl, by omega, ?_, ?_, ⟨HS3.out.bn.below hb5 (by omega), HS3.out.bl.trans (hb5.mono (by omega))⟩⟩
       ·unfold Hid; rw [HF.out, List.length_append, hlen.out]; rfl
       ·unfold Hid IntsO; rw [HF.out, intsV_append]; exact HO5.out
      case measure => omega
    ·have hrk : rkB true kd = (kd == 4) := rfl
     rw [hrk] at HHIT HMISS
     rcases hg : (kd == 4) with _ | _
     ·rw [hg] at HMISS
      have HF := HMISS.out rfl
      clear hrk HHIT HMISS
      go_wp2_with fail
      go_roundg (nd - (i + 1))
      case rel => exact ⟨i + 1, m, c3, A, rfl, by go_num, by omega, rfl, by omega, by rw [HF.out]; exact hlen, by rw [HF.out]; exact HO3, HS3⟩
      case measure => omega
     ·rw [hg] at HHIT
      have HF := HHIT.out rfl
      clear hrk HHIT HMISS
      go_upto_region 8 with (fail)
      clear k1 c1 qp hg
      go_wp2_with (at_builtin; go_must (refine wpList_app rfl (.tmp 54) (.tmp 56) rfl el_int (by rfl) (World.ownsRow.alloc HO3.out _) (by rfl) (Sl.newest (n := 1) (by simp) (by rfl) (by decide)) (by simp [Value.oneCell']) (by omega) (by omega) (by simp; omega) ?_; intro A' cap' w5 hown5 hgr5 hat5; have HO5 := Lib.hid hown5; have HG5 := Lib.hid hgr5; clear hown5 hgr5 hat5))
      go_roundg (nd - (i + 1))
      case rel =>
       have hg5 := HG5.out
       have hb5 : Below (w.heap.size + 1) w3 w5 := ((Below.refl _ _).alloc hz3 _).trans ⟨hg5.os, hg5.tape, hg5.output, hg5.size, fun t ht => hg5.block t (by simp; omega) (fun e => by have := HR1.out t e.symm; omega)⟩
       refine ⟨i + 1, m + 1, cap', A', rfl, by go_num, by omega, rfl, by omega, ?_, ?_, ⟨HS3.out.bn.below hb5 (by omega), HS3.out.bl.trans (hb5.mono (by omega))⟩⟩
       ·unfold Hid; rw [HF.out, List.length_append, hlen.out]; rfl
       ·unfold Hid IntsO; rw [HF.out, intsV_append]; exact HO5.out
      case measure => omega
  ·obtain rfl : i = nd := by omega
   have hii : decide (i < i) = false := by simp
   go_wp2_with fail
   go_ret
   refine ⟨⟨A, c3, by rw [hlen.out]; rfl, ?_⟩, hst.out.bl⟩
   unfold Hid; rw [hlen.out]; exact hO.out.mono (by omega)
theorem rgaps_any (An Ad Al : Option Addr) (nn cn nd cd n c Bn Bd Bl : Nat) (ns : List Nd) (ds : List Dv) (ls : List Lk) (w : World) (hn : Sl w Bn 3 An nn cn (ns.flatMap Nd.cells)) (hd : Sl w Bd 5 Ad nd cd (ds.flatMap Dv.cells)) (hs : Sl w Bl 3 Al n c (ls.flatMap Lk.cells)) (hBn : Bn ≤ w.heap.size) (hBd : Bd ≤ w.heap.size) (hBl : Bl ≤ w.heap.size) (hnd : nd ≤ 1000)
 (hsn : ∀ x ∈ ns, x.name.size ≤ 9223372036854775807) (hsd : ∀ x ∈ ds, x.name.size ≤ 9223372036854775807) :
 Calls Tryz.prog 22 #[.agg #[.slice An nn cn, .slice Ad nd cd], .slice Al n c] w (IntsEPost w (locksErr ns ds ls) (thoTo ds ls 1 gapB nd)) := by
 have HS := Lib.hid hs; have HD := Lib.hid hd
 have HST : Hid (PcSt w #[.slice An nn cn, .slice Ad nd cd] (w.alloc (.cells #[.slice An nn cn, .slice Ad nd cd] 30))) := ⟨Blk.new _ _ _, (Below.refl _ _).alloc (Nat.le_refl _) _⟩
 have HCK := Lib.hid (rlcheck_any An Ad Al nn cn nd cd n c Bn Bd Bl ns ds ls (w.alloc (.cells #[.slice An nn cn, .slice Ad nd cd] 30)) (hn.below HST.out.bl hBn) (hd.below HST.out.bl hBd) (hs.below HST.out.bl hBl) (by simp; omega) (by simp; omega) (by simp; omega) hsn hsd)
 clear hn hd hs hsn hsd
 go_enter Tryz.func22, Tryz.ntmps22
 go_wp2_with fail
 generalize World.alloc _ _ = W at *
 refine HCK.out.mono ?_
 rintro e w1 ⟨rfl, hb1⟩
 have HS1 := Lib.hid (HST.out.later hb1)
 clear hb1 HST HCK
 by_cases h0 : locksErr ns ds ls = 0; rotate_left
 ·have q0 : (locksErr ns ds ls != 0) = true := by simpa using h0
  have HNZ := Lib.hid h0
  clear h0
  go_wp2_with fail
  go_ret2
  exact ⟨.inl ⟨HNZ.out, rfl⟩, HS1.out.bl⟩
 have HZ := Lib.hid h0
 rw [h0]
 clear h0
 have hz1 := HS1.out.bn.lt
 have k0 : w1.cell? ⟨w.heap.size, 0, none⟩ = some (.slice An nn cn) := HS1.out.bn.cell 0
 have k1 : w1.cell? ⟨w.heap.size, 1, none⟩ = some (.slice Ad nd cd) := HS1.out.bn.cell 1
 go_wp2_with fail
 clear k0 k1
 refine (rsome_any false 1 An Ad Al nn cn nd cd n c Bd Bl ds ls w1 (HD.out.below HS1.out.bl hBd) (HS.out.below HS1.out.bl hBl) (by omega) (by omega) hnd).mono ?_
 rintro e w2 ⟨⟨A, c2, rfl, hO⟩, hb⟩
 rw [show rkB false = gapB from rfl] at hO ⊢
 generalize thoTo ds ls 1 gapB nd = l at *
 go_wp2_with fail
 go_ret2
 exact ⟨.inr ⟨HZ.out, A, c2, rfl, hO.out.mono (by omega)⟩, HS1.out.bl.trans (hb.out.mono HS1.out.bl.size)⟩
end Go.Proofs.YtepicjpdhpojnaaGreatDoor
namespace Go.Proofs.YtepicjpdhpojnaaGreatDoor
open Go.RowKit
end Go.Proofs.YtepicjpdhpojnaaGreatDoor
namespace Go.Proofs.YtepicjpdhpojnaaGreatDoor
open Go.RowKit
end Go.Proofs.YtepicjpdhpojnaaGreatDoor
namespace Go.Proofs.YtepicjpdhpojnaaGreatDoor
open Go.RowKit
attribute [local go_sem ↓] Go.wp_at_zero Go.wp_at_succ
def letterT (k : Nat) : List UInt8 := [[], [76], [81], [68], [69], [83], [71]].getD k []
section
variable {w0 w W W' : World} {g : Nat} {dmax : Int} {An Ad : Option Addr} {nn cn nd cd kind t : Nat} {ns : List Nd} {ds : List Dv} {LT : ByteArray}
theorem NetSt.nb_row (h : NetSt w0 g dmax An nn cn ns Ad nd cd ds W) (hg : W.grownBy W' (Value.slice Ad nd cd).ownBlock) : Blk W' (w0.heap.size + 3) 30 #[.slice An nn cn, .slice Ad nd cd] := h.nb.grown hg (fun e => by have := (h.rd.lt _ e.symm).1; omega)
end
end Go.Proofs.YtepicjpdhpojnaaGreatDoor
