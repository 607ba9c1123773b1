import Derived.Test.YtepicjpdhpojnaaGreatDoorX25
import Derived.Deep.RegionLaw
import Derived.Deep.RegionWith
import Derived.Deep.DrawnRows
set_option maxRecDepth 100000
set_option maxHeartbeats 8000000
namespace Go.Proofs.YtepicjpdhpojnaaGreatDoor
section
open Go.RowKit
def rkB (earths : Bool) (k : Int) : Bool := if earths then k == 4 else wO k
def SmR (w : World) (N : Array Value) (ds : List Dv) (ls : List Lk) (pos : Int) (p : Int → Bool) (n gk : Nat) (ov iv : Value) (wr : World) : Prop := ∃ (i m c : Nat) (A : Option Addr), ov = .slice A m c ∧ iv = .int .i64 i ∧ i ≤ n ∧ gk = n - i ∧ m ≤ i ∧ Hid ((yA ds ls pos p i).length = m) ∧ Hid (zQ wr (w.heap.size + 1) A m c (yA ds ls pos p i)) ∧ Hid (uI w N wr)
theorem qW (es : Bool) (pos : Int) (An Ad Al : Option Addr) (nn cn nd cd n c Bd Bl : Nat) (ds : List Dv) (ls : List Lk) (w : World) (hd : Sl w Bd 5 Ad nd cd (ds.flatMap Dv.cells)) (hs : Sl w Bl 3 Al n c (ls.flatMap Lk.cells)) (hBd : Bd ≤ w.heap.size) (hBl : Bl ≤ w.heap.size) (hnd : nd ≤ 1000) :
 Calls Tryz.prog 61 #[.agg #[.slice An nn cn, .slice Ad nd cd], .slice Al n c, .int .i64 pos, .bool es] w fun e w' => (∃ (A : Option Addr) (c' : Nat), e = .returned (.slice A (yA ds ls pos (rkB es) nd).length c') ∧ Hid (zQ w' w.heap.size A (yA ds ls pos (rkB es) nd).length c' (yA ds ls pos (rkB es) nd))) ∧ Hid (Below w.heap.size w w') := by
 have HS := iD hs; have HD := iD hd
 have hdl := hd.le
 have HST : Hid (uI w #[.slice An nn cn, .slice Ad nd cd] (w.alloc (.cells #[.slice An nn cn, .slice Ad nd cd] 30))) := ⟨Blk.new _ _ _, (Below.refl _ _).alloc lR _⟩
 clear hd hs
 go_enter Tryz.func61, Tryz.ntmps61
 go_wp2_with fail
 generalize World.alloc _ _ = W at *
 go_loopg [9, 10] nd (SmR w #[.slice An nn cn, .slice Ad nd cd] ds ls pos (rkB es) nd)
 case atStart => exact ⟨0, 0, 0, none, rfl, rfl, Nat.zero_le _, rfl, Nat.le_refl _, rfl, World.ownsRow_nil _ _ _ _, HST⟩
 case round =>
  clear HST
  obtain ⟨i, m, c3, A, rfl, rfl, hi, rfl, hmi, hlen, hO, hst⟩ := hrel
  have k1 : wr.cell? ⟨w.heap.size, 1, none⟩ = some (.slice Ad nd cd) := hst.out.bn.cell 1
  by_cases hlt : i < nd
  ·go_wp2_with fail
   clear k1
   refine (yY Al n c Bl ls i wr (HS.out.below hst.out.bl hBl) (by have := hst.out.bl.size; omega)).mono ?_
   rintro e w3 ⟨rfl, hb3⟩
   have HS3 := iD (hst.out.later hb3)
   have HO3 := iD (hO.out.later hb3)
   clear hb3 hst hO
   obtain ⟨b, off, x, rfl, hb, hx, hc⟩ := (HD.out.below HS3.out.bl hBd).at (fun _ => rfl) (by decide) hlt
   have HKO := iD (xz hx)
   obtain ⟨nm, kd, xa, xb, co⟩ := x
   have c1 : w3.cell? ⟨b, off + i * 5 + 1, none⟩ = some (.int .i64 kd) := hc 1 _ rfl
   have k1 : w3.cell? ⟨w.heap.size, 1, none⟩ = some (.slice (some ⟨b, off, none⟩) nd cd) := HS3.out.bn.cell 1
   clear hc hx
   have HSU := iD (tL ds ls pos (rkB es) i)
   have HTB : Hid (py ds ls pos (rkB es) i = (decide (yw ls i = some pos) && rkB es kd)) := by unfold Hid py; rw [HKO.out]
   have hz3 := HS3.out.bn.lt
   unfold uD
   rcases hl : yw ls i with _ | pv
   ·have HF : Hid (yA ds ls pos (rkB es) (i + 1) = yA ds ls pos (rkB es) i) := by unfold Hid; rw [HSU.out, HTB.out, hl]; rfl
    clear hl
    simp only [Option.getD_none, Option.isSome_none]
    go_wp2_with fail
    go_roundg (nd - (i + 1))
    case rel => exact ⟨i + 1, m, c3, A, rfl, by go_num, by omega, rfl, by omega, by rw [HF.out]; exact hlen, by rw [HF.out]; exact HO3, HS3⟩
    case measure => omega
   ·simp only [Option.getD_some, Option.isSome_some]
    by_cases hpp : pv = pos; rotate_left
    ·have qp : (pv == pos) = false := by simpa using hpp
     have HF : Hid (yA ds ls pos (rkB es) (i + 1) = yA ds ls pos (rkB es) i) := by unfold Hid; rw [HSU.out, HTB.out, hl]; simp [hpp]
     clear hl hpp
     go_wp2_with fail
     go_roundg (nd - (i + 1))
     case rel => exact ⟨i + 1, m, c3, A, rfl, by go_num, by omega, rfl, by omega, by rw [HF.out]; exact hlen, by rw [HF.out]; exact HO3, HS3⟩
     case measure => omega
    subst hpp
    have qp : (pv == pv) = true := by simp
    have hHIT : rkB es kd = true → Hid (yA ds ls pv (rkB es) (i + 1) = yA ds ls pv (rkB es) i ++ [(i : Int)]) := fun h => by unfold Hid; rw [HSU.out, HTB.out, hl, h]; simp
    have hMISS : rkB es kd = false → Hid (yA ds ls pv (rkB es) (i + 1) = yA ds ls pv (rkB es) i) := fun h => by unfold Hid; rw [HSU.out, HTB.out, hl, h]; simp
    have HHIT := iD hHIT; have HMISS := iD hMISS
    clear hl hHIT hMISS
    have hr1 : ∀ b, (Value.slice A m c3).ownBlock = some b → w.heap.size + 1 ≤ b := fun b e => (HO3.out.lt b e).1
    have HR1 := iD hr1
    clear hr1
    rcases es with _ | _
    ·have hrk : rkB false kd = wO kd := rfl
     rw [hrk] at HHIT HMISS
     have HGP := iD (lz kd w3)
     rcases hg : wO kd with _ | _
     ·rw [hg] at HGP HMISS
      have HF := HMISS.out rfl
      clear hg hrk HHIT HMISS
      go_wp2_with fail
      refine HGP.out.mono ?_
      rintro e w4 ⟨rfl, rfl⟩
      go_wp2_with fail
      go_roundg (nd - (i + 1))
      case rel => exact ⟨i + 1, m, c3, A, rfl, by go_num, by omega, rfl, by omega, by rw [HF.out]; exact hlen, by rw [HF.out]; exact HO3, HS3⟩
      case measure => omega
     ·rw [hg] at HGP HHIT
      have HF := HHIT.out rfl
      clear hg hrk HHIT HMISS
      go_wp2_with fail
      refine HGP.out.mono ?_
      rintro e w4 ⟨rfl, rfl⟩
      clear k1 c1 qp
      go_wp2_with (at_builtin; go_must (refine zW rfl (.tmp 54) (.tmp 56) rfl yX (by rfl) (World.ownsRow.alloc HO3.out _) (by rfl) (Sl.newest (n := 1) (by simp) (by rfl) (by decide)) (by simp [Value.oneCell']) (by omega) (by omega) (by simp; omega) ?_; intro A' cap' w5 hown5 hgr5 hat5; have HO5 := iD hown5; have HG5 := iD hgr5; clear hown5 hgr5 hat5))
      go_roundg (nd - (i + 1))
      case rel =>
       have hg5 := HG5.out
       have hb5 : Below (w.heap.size + 1) w3 w5 := ((Below.refl _ _).alloc hz3 _).trans ⟨hg5.os, hg5.tape, hg5.output, hg5.size, fun t ht => hg5.block t (by simp; omega) (fun e => by have := HR1.out t e.symm; omega)⟩
       refine ⟨i + 1, m + 1, cap', A', rfl, by go_num, by omega, rfl, by omega, ?_, ?_, ⟨HS3.out.bn.below hb5 (by omega), HS3.out.bl.trans (hb5.mono (by omega))⟩⟩
       ·unfold Hid; rw [HF.out, List.length_append, hlen.out]; rfl
       ·unfold Hid zQ; rw [HF.out, zw]; exact HO5.out
      case measure => omega
    ·have hrk : rkB true kd = (kd == 4) := rfl
     rw [hrk] at HHIT HMISS
     rcases hg : (kd == 4) with _ | _
     ·rw [hg] at HMISS
      have HF := HMISS.out rfl
      clear hrk HHIT HMISS
      go_wp2_with fail
      go_roundg (nd - (i + 1))
      case rel => exact ⟨i + 1, m, c3, A, rfl, by go_num, by omega, rfl, by omega, by rw [HF.out]; exact hlen, by rw [HF.out]; exact HO3, HS3⟩
      case measure => omega
     ·rw [hg] at HHIT
      have HF := HHIT.out rfl
      clear hrk HHIT HMISS
      go_upto_region 8 with (fail)
      clear k1 c1 qp hg
      go_wp2_with (at_builtin; go_must (refine zW rfl (.tmp 54) (.tmp 56) rfl yX (by rfl) (World.ownsRow.alloc HO3.out _) (by rfl) (Sl.newest (n := 1) (by simp) (by rfl) (by decide)) (by simp [Value.oneCell']) (by omega) (by omega) (by simp; omega) ?_; intro A' cap' w5 hown5 hgr5 hat5; have HO5 := iD hown5; have HG5 := iD hgr5; clear hown5 hgr5 hat5))
      go_roundg (nd - (i + 1))
      case rel =>
       have hg5 := HG5.out
       have hb5 : Below (w.heap.size + 1) w3 w5 := ((Below.refl _ _).alloc hz3 _).trans ⟨hg5.os, hg5.tape, hg5.output, hg5.size, fun t ht => hg5.block t (by simp; omega) (fun e => by have := HR1.out t e.symm; omega)⟩
       refine ⟨i + 1, m + 1, cap', A', rfl, by go_num, by omega, rfl, by omega, ?_, ?_, ⟨HS3.out.bn.below hb5 (by omega), HS3.out.bl.trans (hb5.mono (by omega))⟩⟩
       ·unfold Hid; rw [HF.out, List.length_append, hlen.out]; rfl
       ·unfold Hid zQ; rw [HF.out, zw]; exact HO5.out
      case measure => omega
  ·obtain rfl : i = nd := by omega
   have hii : decide (i < i) = false := by simp
   go_wp2_with fail
   go_ret
   refine ⟨⟨A, c3, by rw [hlen.out]; rfl, ?_⟩, hst.out.bl⟩
   unfold Hid; rw [hlen.out]; exact hO.out.mono (by omega)
theorem lH (An Ad Al : Option Addr) (nn cn nd cd n c Bn Bd Bl : Nat) (ns : List Nd) (ds : List Dv) (ls : List Lk) (w : World) (hn : Sl w Bn 3 An nn cn (ns.flatMap Nd.cells)) (hd : Sl w Bd 5 Ad nd cd (ds.flatMap Dv.cells)) (hs : Sl w Bl 3 Al n c (ls.flatMap Lk.cells)) (hBn : Bn ≤ w.heap.size) (hBd : Bd ≤ w.heap.size) (hBl : Bl ≤ w.heap.size) (hnd : nd ≤ 1000)
 (hsn : ∀ x ∈ ns, x.name.size ≤ 9223372036854775807) (hsd : ∀ x ∈ ds, x.name.size ≤ 9223372036854775807) :
 Calls Tryz.prog 22 #[.agg #[.slice An nn cn, .slice Ad nd cd], .slice Al n c] w (wB w (zL ns ds ls) (yA ds ls 1 wO nd)) := by
 have HS := iD hs; have HD := iD hd
 have HST : Hid (uI w #[.slice An nn cn, .slice Ad nd cd] (w.alloc (.cells #[.slice An nn cn, .slice Ad nd cd] 30))) := ⟨Blk.new _ _ _, (Below.refl _ _).alloc lR _⟩
 have HCK := iD (xY An Ad Al nn cn nd cd n c Bn Bd Bl ns ds ls (w.alloc (.cells #[.slice An nn cn, .slice Ad nd cd] 30)) (hn.below HST.out.bl hBn) (hd.below HST.out.bl hBd) (hs.below HST.out.bl hBl) (by simp; omega) (by simp; omega) (by simp; omega) hsn hsd)
 clear hn hd hs hsn hsd
 go_enter Tryz.func22, Tryz.ntmps22
 go_wp2_with fail
 generalize World.alloc _ _ = W at *
 refine HCK.out.mono ?_
 rintro e w1 ⟨rfl, hb1⟩
 have HS1 := iD (HST.out.later hb1)
 clear hb1 HST HCK
 by_cases h0 : zL ns ds ls = 0; rotate_left
 ·have q0 : (zL ns ds ls != 0) = true := by simpa using h0
  have HNZ := iD h0
  clear h0
  go_wp2_with fail
  go_ret2
  exact ⟨.inl ⟨HNZ.out, rfl⟩, HS1.out.bl⟩
 have HZ := iD h0
 rw [h0]
 clear h0
 have hz1 := HS1.out.bn.lt
 have k0 : w1.cell? ⟨w.heap.size, 0, none⟩ = some (.slice An nn cn) := HS1.out.bn.cell 0
 have k1 : w1.cell? ⟨w.heap.size, 1, none⟩ = some (.slice Ad nd cd) := HS1.out.bn.cell 1
 go_wp2_with fail
 clear k0 k1
 refine (qW false 1 An Ad Al nn cn nd cd n c Bd Bl ds ls w1 (HD.out.below HS1.out.bl hBd) (HS.out.below HS1.out.bl hBl) (by omega) (by omega) hnd).mono ?_
 rintro e w2 ⟨⟨A, c2, rfl, hO⟩, hb⟩
 rw [show rkB false = wO from rfl] at hO ⊢
 generalize yA ds ls 1 wO nd = l at *
 go_wp2_with fail
 go_ret2
 exact ⟨.inr ⟨HZ.out, A, c2, rfl, hO.out.mono (by omega)⟩, HS1.out.bl.trans (hb.out.mono HS1.out.bl.size)⟩
theorem oJ (An Ad Al : Option Addr) (nn cn nd cd n c Bn Bd Bl : Nat) (ns : List Nd) (ds : List Dv) (ls : List Lk) (w : World) (hn : Sl w Bn 3 An nn cn (ns.flatMap Nd.cells)) (hd : Sl w Bd 5 Ad nd cd (ds.flatMap Dv.cells)) (hs : Sl w Bl 3 Al n c (ls.flatMap Lk.cells)) (hBn : Bn ≤ w.heap.size) (hBd : Bd ≤ w.heap.size) (hBl : Bl ≤ w.heap.size) (hnd : nd ≤ 1000)
 (hsn : ∀ x ∈ ns, x.name.size ≤ 9223372036854775807) (hsd : ∀ x ∈ ds, x.name.size ≤ 9223372036854775807) :
 Calls Tryz.prog 119 #[.agg #[.slice An nn cn, .slice Ad nd cd], .slice Al n c] w (wB w (zL ns ds ls) (yA ds ls 2 (fun k => k == 4) nd)) := by
 rw [show (fun k : Int => k == 4) = rkB true from rfl]
 have HS := iD hs; have HD := iD hd
 have HST : Hid (uI w #[.slice An nn cn, .slice Ad nd cd] (w.alloc (.cells #[.slice An nn cn, .slice Ad nd cd] 30))) := ⟨Blk.new _ _ _, (Below.refl _ _).alloc lR _⟩
 have HCK := iD (xY An Ad Al nn cn nd cd n c Bn Bd Bl ns ds ls (w.alloc (.cells #[.slice An nn cn, .slice Ad nd cd] 30)) (hn.below HST.out.bl hBn) (hd.below HST.out.bl hBd) (hs.below HST.out.bl hBl) (by simp; omega) (by simp; omega) (by simp; omega) hsn hsd)
 clear hn hd hs hsn hsd
 go_enter Tryz.func119, Tryz.ntmps119
 go_wp2_with fail
 generalize World.alloc _ _ = W at *
 refine HCK.out.mono ?_
 rintro e w1 ⟨rfl, hb1⟩
 have HS1 := iD (HST.out.later hb1)
 clear hb1 HST HCK
 by_cases h0 : zL ns ds ls = 0; rotate_left
 ·have q0 : (zL ns ds ls != 0) = true := by simpa using h0
  have HNZ := iD h0
  clear h0
  go_wp2_with fail
  go_ret2
  exact ⟨.inl ⟨HNZ.out, rfl⟩, HS1.out.bl⟩
 have HZ := iD h0
 rw [h0]
 clear h0
 have hz1 := HS1.out.bn.lt
 have k0 : w1.cell? ⟨w.heap.size, 0, none⟩ = some (.slice An nn cn) := HS1.out.bn.cell 0
 have k1 : w1.cell? ⟨w.heap.size, 1, none⟩ = some (.slice Ad nd cd) := HS1.out.bn.cell 1
 go_wp2_with fail
 clear k0 k1
 refine (qW true 2 An Ad Al nn cn nd cd n c Bd Bl ds ls w1 (HD.out.below HS1.out.bl hBd) (HS.out.below HS1.out.bl hBl) (by omega) (by omega) hnd).mono ?_
 rintro e w2 ⟨⟨A, c2, rfl, hO⟩, hb⟩
 generalize yA ds ls 2 (rkB true) nd = l at *
 go_wp2_with fail
 go_ret2
 exact ⟨.inr ⟨HZ.out, A, c2, rfl, hO.out.mono (by omega)⟩, HS1.out.bl.trans (hb.out.mono HS1.out.bl.size)⟩
end
section
open Go.RowKit
def RtO (w : World) (NN : Array Value) (w4 : World) (nn : Nat) (ds : List Dv) (er : List Int) (R : Int → Prop) (gk : Nat) (ov iv : Value) (wr : World) : Prop :=
 ∃ (i m co : Nat) (Ao : Option Addr), ov = .slice Ao m co ∧ iv = .int .i64 i ∧ i ≤ nn ∧ gk = nn - i ∧ m ≤ i ∧ Hid (Blk wr w.heap.size 30 NN) ∧ Hid (Below w4.heap.size w4 wr) ∧ Hid (zQ wr w4.heap.size Ao m co ((yC i R).filter (sX ds er)))
def RtI (w : World) (NN : Array Value) (w4 w6 : World) (ne : Nat) (ds : List Dv) (er : List Int) (hit : Prop) (v : Int) (o0 : Value) (gk : Nat) (ov iv : Value) (wr : World) : Prop :=
 ∃ k : Nat, ov = o0 ∧ iv = .int .i64 k ∧ k ≤ ne ∧ gk = ne - k ∧ Hid (Blk wr w.heap.size 30 NN) ∧ Hid (Below w4.heap.size w4 wr) ∧ Hid (Below w6.heap.size w6 wr) ∧ Hid (∀ (t : Nat) (d : Int), t < k → er[t]? = some d → ¬ (aAt ds d = v ∧ hit))
theorem js {n : Nat} {R : Int → Prop} {p : Int → Bool} (h : R n) (hp : p n = true) : (yC (n + 1) R).filter p = (yC n R).filter p ++ [(n : Int)] := by rw [tR h, List.filter_append]; simp [hp]
theorem j1 {n : Nat} {R : Int → Prop} {p : Int → Bool} (h : ¬ (R n ∧ p n = true)) : (yC (n + 1) R).filter p = (yC n R).filter p := by
 rw [uW]
 split
 ·next hr =>
  have : p n = false := by simpa using fun e => h ⟨hr, e⟩
  rw [List.filter_append]; simp [this]
 ·rw [List.append_nil]
theorem jw {ds : List Dv} {x : Dv} {i : Nat} (h : ds[i]? = some x) : aAt ds (i : Int) = x.a := by unfold aAt; rw [Int.toNat_natCast, h]
theorem nH (ds : List Dv) (er : List Int) (v : Int) : sX ds er v = true ↔ ∃ d ∈ er, aAt ds d = v := by unfold sX; rw [List.any_eq_true]; simp
theorem pW (An Ad Al Az : Option Addr) (nn cn nd cd nl cl n c : Nat) (ns : List Nd) (ds : List Dv) (ls : List Lk) (z : List Int) (w : World) (_hl : Laid w) (hn : Sl w w.heap.size 3 An nn cn (ns.flatMap Nd.cells)) (hd : Sl w w.heap.size 5 Ad nd cd (ds.flatMap Dv.cells)) (hs : Sl w w.heap.size 3 Al nl cl (ls.flatMap Lk.cells)) (hz : Sl w w.heap.size 1 Az n c (zK z))
 (hsn : ∀ x ∈ ns, x.name.size ≤ 9223372036854775807) (hsd : ∀ x ∈ ds, x.name.size ≤ 9223372036854775807) (_hnz : n ≤ 10000) (hnd : nd ≤ 1000) :
 Calls Tryz.prog 94 #[.agg #[.slice An nn cn, .slice Ad nd cd], .slice Al nl cl, .slice Az n c] w (sE w (zv ns ds ls z) (qM ns ds ls z)) := by
 have HLD := iD (hd.len (fun _ => rfl) (by decide))
 have HLN := iD (hn.len (fun _ => rfl) (by decide))
 have hdl := hd.le
 have HB : Hid (Below w.heap.size w (w.alloc (.cells #[.slice An nn cn, .slice Ad nd cd] 30))) := (Below.refl _ _).alloc lR _
 have HK := iD (Blk.new w 30 #[.slice An nn cn, .slice Ad nd cd])
 have HER := iD (oJ An Ad Al nn cn nd cd nl cl w.heap.size w.heap.size w.heap.size ns ds ls (w.alloc (.cells #[.slice An nn cn, .slice Ad nd cd] 30)) (hn.alloc lR _) (hd.alloc lR _) (hs.alloc lR _) (by simp) (by simp) (by simp) hnd hsn hsd)
 have HN := iD hn; have HD := iD hd; have HS := iD hs; have HZ := iD hz; have HSN := iD hsn; have HSD := iD hsd
 clear hn hd hs hz hsn hsd
 go_enter Tryz.func94, Tryz.ntmps94
 go_wp2_with fail
 generalize World.alloc w _ = W at *
 refine HER.out.mono ?_
 rintro e w1 ⟨hcase, hb1⟩
 have HB1 := iD (HB.out.trans (hb1.out.mono HB.out.size))
 have HK1 := iD (HK.out.below hb1.out HK.out.lt)
 clear HB HK HER
 rcases hcase with ⟨he, rfl⟩ | ⟨he, Ae, ce, rfl, hoe⟩
 ·have HE : Hid (zv ns ds ls z = zL ns ds ls) := by unfold Hid zv; rw [if_pos he]
  have q : (zL ns ds ls != 0) = true := by simpa using he
  have HNZ := iD he
  clear he hb1
  go_wp2_with fail
  go_ret2
  exact ⟨.inl ⟨by rw [HE.out]; exact HNZ.out, by rw [HE.out]; rfl⟩, HB1.out⟩
 have HZ0 := iD he
 have HE2 : Hid (zv ns ds ls z = zd ns ds z) := by unfold Hid zv; rw [if_neg (by omega)]
 clear he hb1
 obtain ⟨er, hera⟩ : ∃ er, er = yA ds ls 2 (fun k => k == 4) nd := ⟨_, rfl⟩
 rw [← hera] at hoe ⊢
 have HERA := iD hera
 have HERR : Hid (∀ d ∈ er, 0 ≤ d ∧ d < nd) := fun d hd => qT (by rw [hera] at hd; exact hd)
 obtain ⟨ne, hnera⟩ : ∃ ne, ne = er.length := ⟨_, rfl⟩
 rw [← hnera] at hoe ⊢
 have HLE : Hid (er.length = ne) := hnera.symm
 clear hera hnera
 have HES := iD hoe.out.sl
 have hnec := HES.out.le
 have hz1 := HB1.out.size
 have k0 : w1.cell? ⟨w.heap.size, 0, none⟩ = some (.slice An nn cn) := HK1.out.cell 0
 have k1 : w1.cell? ⟨w.heap.size, 1, none⟩ = some (.slice Ad nd cd) := HK1.out.cell 1
 clear hoe
 go_wp2_with fail
 clear k0 k1
 refine (so An Ad Az nn cn nd cd n c ns ds z w1 ((HN.out.below HB1.out lR).more hz1) ((HD.out.below HB1.out lR).more hz1) ((HZ.out.below HB1.out lR).more hz1) HSN.out HSD.out).mono ?_
 rintro e w2 ⟨rfl, hb2⟩
 have HB2 := iD (HB1.out.trans (hb2.mono HB1.out.size)); have HK2 := iD (HK1.out.below hb2 HK1.out.lt)
 have HES2 := iD (HES.out.below hb2 lR)
 have hz2 := hb2.size
 clear hb2 HB1 HK1 HES
 by_cases he : zd ns ds z = 0; rotate_left
 ·have q : (zd ns ds z != 0) = true := by simpa using he
  have HNZ := iD he
  clear he
  go_wp2_with fail
  go_ret2
  exact ⟨.inl ⟨by rw [HE2.out]; exact HNZ.out, by rw [HE2.out]; rfl⟩, HB2.out⟩
 have HEZ := iD he
 obtain ⟨hck, hzp, hzr⟩ := y5 he
 have HOK := iD (vu.of hck)
 have hnl := HOK.out.nl
 have hnn : nn ≤ 10000 := by have := HLN.out; omega
 have HZI : Hid (∀ v ∈ z, 0 ≤ v ∧ v < nn) := fun v hv => by have := vP hzr v hv; rw [HLN.out] at this; omega
 have HEN : Hid (xG nn ds) := by have := HOK.out.e; rw [HLN.out] at this; exact this
 rw [he]
 clear he hck hzp hzr hnl
 have k0 : w2.cell? ⟨w.heap.size, 0, none⟩ = some (.slice An nn cn) := HK2.out.cell 0
 have k1 : w2.cell? ⟨w.heap.size, 1, none⟩ = some (.slice Ad nd cd) := HK2.out.cell 1
 go_wp2_with fail
 clear k0 k1
 refine (lH An Ad Al nn cn nd cd nl cl w.heap.size w.heap.size w.heap.size ns ds ls w2 (HN.out.below HB2.out lR) (HD.out.below HB2.out lR) (HS.out.below HB2.out lR) (by omega) (by omega) (by omega) hnd HSN.out HSD.out).mono ?_
 rintro e w3 ⟨⟨he3, _⟩ | ⟨_, Ag, cg, rfl, hog⟩, hb3⟩
 ·exact absurd HZ0.out he3
 have hz3 := hb3.out.size
 have HB3 := iD (HB2.out.trans (hb3.out.mono HB2.out.size))
 have HK3 := iD (HK2.out.below hb3.out HK2.out.lt)
 have HES3 := iD (HES2.out.below hb3.out hz2)
 obtain ⟨gs, hgs⟩ : ∃ gs, gs = yA ds ls 1 wO nd := ⟨_, rfl⟩
 rw [← hgs] at hog ⊢
 have HGS : Hid (gs = kV ds ls) := by unfold Hid kV; rw [hgs, HLD.out]
 obtain ⟨ng, hng⟩ : ∃ ng, ng = gs.length := ⟨_, rfl⟩
 rw [← hng] at hog ⊢
 clear hgs hng hb3 HB2 HK2 HES2
 have k0 : w3.cell? ⟨w.heap.size, 0, none⟩ = some (.slice An nn cn) := HK3.out.cell 0
 have k1 : w3.cell? ⟨w.heap.size, 1, none⟩ = some (.slice Ad nd cd) := HK3.out.cell 1
 go_wp2_with fail
 clear k0 k1
 refine (nu An Ad Az Ag nn cn nd cd n c ng cg ds z gs w3 ((HD.out.below HB3.out lR).more HB3.out.size) ((HZ.out.below HB3.out lR).more HB3.out.size) hog.out.sl hnn HEN.out HOK.out.ne HZI.out).mono ?_
 rintro e w4 ⟨AR, cr, rfl, hR, hb4⟩
 have HB4 := iD (HB3.out.trans (hb4.out.mono HB3.out.size))
 have HK4 := iD (HK3.out.below hb4.out HK3.out.lt)
 have HES4 := iD (HES3.out.below hb4.out (by omega))
 have hz4 := hb4.out.size
 have HRS := iD hR.out.sl
 obtain ⟨R, hRR⟩ : ∃ R, R = Rgn ds gs z := ⟨_, rfl⟩
 rw [← hRR] at HRS ⊢
 have HRR := iD hRR
 obtain ⟨rl, hrl⟩ : ∃ rl, rl = yC nn R := ⟨_, rfl⟩
 rw [← hrl] at HRS ⊢
 have HRL : Hid (∀ i : Nat, i < nn → (yx rl (i : Int) = true ↔ R i)) := fun i hi => by rw [vl, hrl, rm]; exact ⟨fun h => h.2.2, fun h => ⟨by omega, by omega, h⟩⟩
 obtain ⟨nr, hnr⟩ : ∃ nr, nr = rl.length := ⟨_, rfl⟩
 rw [← hnr] at HRS ⊢
 clear hRR hrl hnr hb4 hR hog HB3 HK3 HES3
 have hzz : w.heap.size ≤ w4.heap.size := HB4.out.size
 go_wp2_with fail
 have HKL : Hid (w.heap.size < w4.heap.size) := HK4.out.lt
 go_loopg [14, 15] nn (RtO w #[.slice An nn cn, .slice Ad nd cd] w4 nn ds er R)
 case atStart => exact ⟨0, 0, 0, none, rfl, rfl, Nat.zero_le _, rfl, Nat.le_refl _, HK4, Below.refl _ _, World.ownsRow_nil _ _ _ _⟩
 case round =>
  clear HK4
  obtain ⟨i, m, co, Ao, rfl, rfl, hi, rfl, hmi, hK, hB, hO⟩ := hrel
  have k0 : wr.cell? ⟨w.heap.size, 0, none⟩ = some (.slice An nn cn) := hK.out.cell 0
  by_cases hlt : i < nn; rotate_left
  ·obtain rfl : i = nn := by omega
   have hii : decide (i < i) = false := by simp
   go_wp2_with fail
   go_ret2
   refine ⟨.inr ⟨by rw [HE2.out, HEZ.out], Ao, m, co, rfl, ?_⟩, HB4.out.trans (hB.out.mono hzz)⟩
   have : qM ns ds ls z = (yC i R).filter (sX ds er) := by
    unfold qM jt
    rw [← HGS.out, HLD.out, ← HERA.out, HLN.out, HRR.out]
   rw [this]
   exact hO.out.mono hzz
  go_upto_region 13 with (fail)
  clear k0
  go_wp2_with fail
  go_loopg [14, 16] ne (RtI w #[.slice An nn cn, .slice Ad nd cd] w4 wr ne ds er (R (i : Int)) (i : Int) (.slice Ao m co))
  case atStart => exact ⟨0, rfl, rfl, Nat.zero_le _, rfl, hK, hB, Below.refl _ _, fun t d ht => by omega⟩
  case round =>
   clear hK hB
   obtain ⟨k, rfl, rfl, hk, rfl, hK, hB, hBw, hno⟩ := hrel
   by_cases hke : k < ne; rotate_left
   ·obtain rfl : k = ne := by omega
    have hii : decide (k < k) = false := by simp
    have HFL : Hid ((yC (i + 1) R).filter (sX ds er) = (yC i R).filter (sX ds er)) := j1 fun h => by
     obtain ⟨d, hd, he⟩ := (nH _ _ _).1 h.2
     obtain ⟨t, ht⟩ := List.getElem?_of_mem hd
     exact hno.out t d (by have := (List.getElem?_eq_some_iff.1 ht).1; have := HLE.out; omega) ht ⟨he, h.1⟩
    have HO2 := iD (hO.out.later hBw.out)
    go_wp2_with fail
    go_roundg (nn - (i + 1))
    case rel => exact ⟨i + 1, m, co, Ao, rfl, by go_num, by omega, rfl, by omega, hK, hB, by rw [HFL.out]; exact HO2⟩
    case measure => omega
   obtain ⟨be, oe, d, rfl, hbe, hxe, hce⟩ := (HES4.out.below hB.out (by omega)).at1 hke
   have hdr := HERR.out d (List.mem_of_getElem? hxe)
   obtain ⟨d, rfl⟩ := Int.eq_ofNat_of_zero_le hdr.1
   have hdn : d < nd := by omega
   have HXE := iD hxe
   obtain ⟨b0, off, x, rfl, hb0, hx, hcx⟩ := (HD.out.below (HB4.out.trans (hB.out.mono hzz)) lR).at (k := d) (fun _ => rfl) (by decide) hdn
   have HAA := iD (jw hx)
   obtain ⟨nm, kd, xa, xb, co2⟩ := x
   have c2 : wr.cell? ⟨b0, off + d * 5 + 2, none⟩ = some (.int .i64 xa) := hcx 2 _ rfl
   have HCS : Hid (wr.cell? ⟨w.heap.size, 1, none⟩ = some (.slice (some ⟨b0, off, none⟩) nd cd) ∧ wr.cell? ⟨be, oe + k, none⟩ = some (.int .i64 (d : Int)) ∧ wr.cell? ⟨b0, off + d * 5 + 2, none⟩ = some (.int .i64 xa)) := ⟨hK.out.cell 1, hce, c2⟩
   have HRG : Hid (Sl wr.drew wr.drew.heap.size 1 AR nr cr (zK rl)) := (HRS.out.below hB.out.drew lR).more hB.out.drew.size
   have HRH := iD (uq AR nr cr rl (i : Int) wr.drew HRG.out)
   clear hx hcx hce hxe hdr c2
   by_cases hav : xa = (i : Int); rotate_left
   ·have q : (xa == (i : Int)) = false := by simpa using hav
    have HNH : Hid (∀ (t : Nat) (u : Int), t < k + 1 → er[t]? = some u → ¬ (aAt ds u = (i : Int) ∧ R (i : Int))) := fun t u ht hu hh => (Nat.lt_succ_iff_lt_or_eq.1 ht).elim (fun h => hno.out t u h hu hh) (fun h => by rw [h, HXE.out] at hu; injection hu with hu; rw [← hu, HAA.out] at hh; exact hav hh.1)
    clear hav
    go_upto_region 16 with (fail)
    refine za (S := fun W' => W'.cell? ⟨w.heap.size, 1, none⟩ = some (.slice (some ⟨b0, off, none⟩) nd cd) ∧ W'.cell? ⟨be, oe + k, none⟩ = some (.int .i64 (d : Int)) ∧ W'.cell? ⟨b0, off + d * 5 + 2, none⟩ = some (.int .i64 xa)) (J := []) (n := _) ((0, true) :: (1, true) :: (2, true) :: (3, true) :: (4, true) :: (5, true) :: (6, true) :: (7, true) :: (8, true) :: (9, true) :: (10, true) :: (11, true) :: (12, true) :: (13, true) :: (14, true) :: (15, true) :: []) (by as_aux_lemma => kernel_rfl) (by rfl) (zM (k := 3) (by go_simp; rfl) (zM (k := 8) (by go_simp; rfl) (zM (k := 16) (by go_simp; rfl) (zM (k := 15) (by go_simp; rfl) yH)))) ?_ (fun _ _ _ _ _ h => h) (fun Q2 A hsz hbase hn2 AA => ?_)
    ·exact HCS.out
    try dsimp only at AA
    obtain ⟨b3, b8, b16, b15, -⟩ := hbase
    refine oT 0 55 ?_ rfl rfl (zB rfl) AA (fun ρ AB w hSw => ?_) ?_
    rotate_left
    ·(have e3 := tm AB hsz 3 rfl (zF b3); clear AB; (try dsimp only at hSw); go_simp; try with_reducible rfl)
    refine oT 1 56 ?_ rfl rfl (zB rfl) AA (fun ρ AB w hSw => ?_) ?_
    rotate_left
    ·(have e55 := tm AB hsz 55 rfl zA; clear AB; (try dsimp only at hSw); have k1 := hSw.1; clear hSw; go_simp; try with_reducible rfl)
    refine oM 2 57 ?_ rfl rfl rfl (zB rfl) AA (fun ρ AB => ?_) ?_
    rotate_left
    ·(have e8 := tm AB hsz 8 rfl (zC rfl (zC rfl (zF b8))); exact e8)
    refine oM 3 58 ?_ rfl rfl rfl (zB rfl) AA (fun ρ AB => ?_) ?_
    rotate_left
    ·(have e16 := tm AB hsz 16 rfl (zC rfl (zC rfl (zC rfl (zF b16)))); exact e16)
    refine oT 4 59 ?_ rfl rfl (zB rfl) AA (fun ρ AB w hSw => ?_) ?_
    rotate_left
    ·(have e57 := tm AB hsz 57 rfl (zC rfl zA); have e58 := tm AB hsz 58 rfl zA; clear AB; (try dsimp only at hSw); go_simp; try with_reducible rfl)
    refine oT 5 60 ?_ rfl rfl (zB rfl) AA (fun ρ AB w hSw => ?_) ?_
    rotate_left
    ·(have e59 := tm AB hsz 59 rfl zA; clear AB; (try dsimp only at hSw); have ke := hSw.2.1; clear hSw; go_simp; try with_reducible rfl)
    refine oT 6 61 ?_ rfl rfl (zB rfl) AA (fun ρ AB w hSw => ?_) ?_
    rotate_left
    ·(have e56 := tm AB hsz 56 rfl (zD rfl rfl rfl rfl zA); have e60 := tm AB hsz 60 rfl zA; clear AB; (try dsimp only at hSw); go_simp; try with_reducible rfl)
    refine oT 7 62 ?_ rfl rfl (zB rfl) AA (fun ρ AB w hSw => ?_) ?_
    rotate_left
    ·(have e61 := tm AB hsz 61 rfl zA; clear AB; (try dsimp only at hSw); go_simp; try with_reducible rfl)
    refine oT 8 63 ?_ rfl rfl (zB rfl) AA (fun ρ AB w hSw => ?_) ?_
    rotate_left
    ·(have e62 := tm AB hsz 62 rfl zA; clear AB; (try dsimp only at hSw); have ka := hSw.2.2; clear hSw; go_simp; try with_reducible rfl)
    refine oM 9 64 ?_ rfl rfl rfl (zB rfl) AA (fun ρ AB => ?_) ?_
    rotate_left
    ·(have e15 := tm AB hsz 15 rfl (zD rfl rfl rfl rfl (zD rfl rfl rfl rfl (zC rfl (zF b15)))); exact e15)
    refine oT 10 65 ?_ rfl rfl (zB rfl) AA (fun ρ AB w hSw => ?_) ?_
    rotate_left
    ·(have e63 := tm AB hsz 63 rfl (zC rfl zA); have e64 := tm AB hsz 64 rfl zA; clear AB; (try dsimp only at hSw); go_simp; try with_reducible rfl)
    refine oM 11 66 ?_ rfl rfl rfl (zB rfl) AA (fun ρ AB => ?_) ?_
    rotate_left
    ·(have e65 := tm AB hsz 65 rfl zA; exact e65)
    refine oS 12 67 rfl rfl (wN 11 66 true false rfl hsz rfl rfl rfl zA rfl) AA ?_
    refine oS 13 68 rfl rfl (wN 11 66 true false rfl hsz rfl rfl rfl (zC rfl zA) rfl) AA ?_
    refine oS 14 69 rfl rfl (wN 11 66 true false rfl hsz rfl rfl rfl (zC rfl (zC rfl zA)) rfl) AA ?_
    refine oT 15 70 ?_ rfl rfl (zB rfl) AA (fun ρ AB w hSw => ?_) ?_
    rotate_left
    ·(have hc := AB.const; have e66 := tm AB hsz 66 rfl (zC rfl (zC rfl (zC rfl zA))); have e69 := tm AB hsz 69 rfl zA; clear AB; (try dsimp only at hSw); go_simp; try with_reducible rfl)
    refine yG hn2 ?_
    clear AA hn2 b3 b8 b16 b15 hsz A Q2
    simp only [yF, zu, yQ, xO, xP]
    clear q
    go_wp2_with fail
    go_roundg (ne - (k + 1))
    case rel => exact ⟨k + 1, rfl, by go_num, by omega, rfl, hK, hB.out.drew, hBw.out.drew, HNH⟩
    case measure => omega
   have q : (xa == (i : Int)) = true := by simpa using hav
   rcases hh : yx rl (i : Int) with _ | _
   ·have HNR : Hid (¬ R (i : Int)) := fun h => by have := (HRL.out i hlt).2 h; rw [hh] at this; cases this
    have HNH : Hid (∀ (t : Nat) (u : Int), t < k + 1 → er[t]? = some u → ¬ (aAt ds u = (i : Int) ∧ R (i : Int))) := fun t u _ _ hx => HNR.out hx.2
    have HHB := iD hh
    clear hav hh
    go_upto_region 16 with (fail)
    refine za (S := fun W' => W'.cell? ⟨w.heap.size, 1, none⟩ = some (.slice (some ⟨b0, off, none⟩) nd cd) ∧ W'.cell? ⟨be, oe + k, none⟩ = some (.int .i64 (d : Int)) ∧ W'.cell? ⟨b0, off + d * 5 + 2, none⟩ = some (.int .i64 xa)) (J := []) (n := _) ((0, true) :: (1, true) :: (2, true) :: (3, true) :: (4, true) :: (5, true) :: (6, true) :: (7, true) :: (8, true) :: (9, true) :: (10, true) :: (11, true) :: (12, true) :: (13, true) :: (14, false) :: (15, true) :: []) (by as_aux_lemma => kernel_rfl) (by rfl) (zM (k := 3) (by go_simp; rfl) (zM (k := 8) (by go_simp; rfl) (zM (k := 16) (by go_simp; rfl) (zM (k := 15) (by go_simp; rfl) (zM (k := 13) (by go_simp; rfl) yH))))) ?_ (fun _ _ _ _ _ h => h) (fun Q2 A hsz hbase hn2 AA => ?_)
    ·exact HCS.out
    try dsimp only at AA
    obtain ⟨b3, b8, b16, b15, b13, -⟩ := hbase
    refine oT 0 55 ?_ rfl rfl (zB rfl) AA (fun ρ AB w hSw => ?_) ?_
    rotate_left
    ·(have e3 := tm AB hsz 3 rfl (zF b3); clear AB; (try dsimp only at hSw); go_simp; try with_reducible rfl)
    refine oT 1 56 ?_ rfl rfl (zB rfl) AA (fun ρ AB w hSw => ?_) ?_
    rotate_left
    ·(have e55 := tm AB hsz 55 rfl zA; clear AB; (try dsimp only at hSw); have k1 := hSw.1; clear hSw; go_simp; try with_reducible rfl)
    refine oM 2 57 ?_ rfl rfl rfl (zB rfl) AA (fun ρ AB => ?_) ?_
    rotate_left
    ·(have e8 := tm AB hsz 8 rfl (zC rfl (zC rfl (zF b8))); exact e8)
    refine oM 3 58 ?_ rfl rfl rfl (zB rfl) AA (fun ρ AB => ?_) ?_
    rotate_left
    ·(have e16 := tm AB hsz 16 rfl (zC rfl (zC rfl (zC rfl (zF b16)))); exact e16)
    refine oT 4 59 ?_ rfl rfl (zB rfl) AA (fun ρ AB w hSw => ?_) ?_
    rotate_left
    ·(have e57 := tm AB hsz 57 rfl (zC rfl zA); have e58 := tm AB hsz 58 rfl zA; clear AB; (try dsimp only at hSw); go_simp; try with_reducible rfl)
    refine oT 5 60 ?_ rfl rfl (zB rfl) AA (fun ρ AB w hSw => ?_) ?_
    rotate_left
    ·(have e59 := tm AB hsz 59 rfl zA; clear AB; (try dsimp only at hSw); have ke := hSw.2.1; clear hSw; go_simp; try with_reducible rfl)
    refine oT 6 61 ?_ rfl rfl (zB rfl) AA (fun ρ AB w hSw => ?_) ?_
    rotate_left
    ·(have e56 := tm AB hsz 56 rfl (zD rfl rfl rfl rfl zA); have e60 := tm AB hsz 60 rfl zA; clear AB; (try dsimp only at hSw); go_simp; try with_reducible rfl)
    refine oT 7 62 ?_ rfl rfl (zB rfl) AA (fun ρ AB w hSw => ?_) ?_
    rotate_left
    ·(have e61 := tm AB hsz 61 rfl zA; clear AB; (try dsimp only at hSw); go_simp; try with_reducible rfl)
    refine oT 8 63 ?_ rfl rfl (zB rfl) AA (fun ρ AB w hSw => ?_) ?_
    rotate_left
    ·(have e62 := tm AB hsz 62 rfl zA; clear AB; (try dsimp only at hSw); have ka := hSw.2.2; clear hSw; go_simp; try with_reducible rfl)
    refine oM 9 64 ?_ rfl rfl rfl (zB rfl) AA (fun ρ AB => ?_) ?_
    rotate_left
    ·(have e15 := tm AB hsz 15 rfl (zD rfl rfl rfl rfl (zD rfl rfl rfl rfl (zC rfl (zF b15)))); exact e15)
    refine oT 10 65 ?_ rfl rfl (zB rfl) AA (fun ρ AB w hSw => ?_) ?_
    rotate_left
    ·(have e63 := tm AB hsz 63 rfl (zC rfl zA); have e64 := tm AB hsz 64 rfl zA; clear AB; (try dsimp only at hSw); go_simp; try with_reducible rfl)
    refine oM 11 66 ?_ rfl rfl rfl (zB rfl) AA (fun ρ AB => ?_) ?_
    rotate_left
    ·(have e65 := tm AB hsz 65 rfl zA; exact e65)
    refine oM 12 67 ?_ rfl rfl rfl (wY 11 66 true rfl hsz rfl rfl rfl zA) AA (fun ρ AB => ?_) ?_
    rotate_left
    ·(have e13 := tm AB hsz 13 rfl (zD rfl rfl rfl rfl (zD rfl rfl rfl rfl (zD rfl rfl rfl rfl (zF b13)))); exact e13)
    refine oM 13 68 ?_ rfl rfl rfl (wY 11 66 true rfl hsz rfl rfl rfl (zC rfl zA)) AA (fun ρ AB => ?_) ?_
    rotate_left
    ·(have e15 := tm AB hsz 15 rfl (zD rfl rfl rfl rfl (zD rfl rfl rfl rfl (zD rfl rfl rfl rfl (zC rfl (zF b15))))); exact e15)
    refine yR (i := 14) (d := 69) (vs := ?_) rfl rfl rfl (wY 11 66 true rfl hsz rfl rfl rfl (zC rfl (zC rfl zA))) (fun ρ AB => ?_) ?_ ?_
    rotate_left
    ·(have e67 := tm AB hsz 67 rfl (zC rfl zA); have e68 := tm AB hsz 68 rfl zA; simp only [List.map_toArray, List.map_cons, List.map_nil, e67, e68]; try with_reducible rfl)
    ·(intro w; go_simp)
    refine HRH.out.mono ?_
    rintro e w7 ⟨rfl, rfl⟩
    rw [HHB.out]
    refine ⟨_, rfl, fun _ => ?_, fun AA' => ?_⟩
    ·exact HCS.out
    replace AA := AA' rfl
    clear AA'
    try dsimp only at AA
    refine oT 15 70 ?_ rfl rfl (zB rfl) AA (fun ρ AB w hSw => ?_) ?_
    rotate_left
    ·(have hc := AB.const; have e66 := tm AB hsz 66 rfl (zC rfl (zC rfl (zC rfl zA))); have e69 := tm AB hsz 69 rfl zA; clear AB; (try dsimp only at hSw); go_simp; try with_reducible rfl)
    refine yG hn2 ?_
    clear AA hn2 b3 b8 b16 b15 b13 hsz A Q2
    simp only [yF, zu, yQ, xO, xP]
    clear q
    go_wp2_with fail
    go_roundg (ne - (k + 1))
    case rel => exact ⟨k + 1, rfl, by go_num, by omega, rfl, hK, hB.out.drew, hBw.out.drew, HNH⟩
    case measure => omega
   ·have HFL : Hid ((yC (i + 1) R).filter (sX ds er) = (yC i R).filter (sX ds er) ++ [(i : Int)]) := js ((HRL.out i hlt).1 hh) ((nH _ _ _).2 ⟨d, List.mem_of_getElem? HXE.out, by rw [HAA.out]; exact hav⟩)
    have HHB := iD hh
    have HO2 := iD ((hO.out.later hBw.out).drew)
    have HB5 := iD hB.out.drew
    have HK5 : Hid (Blk wr.drew w.heap.size 30 #[.slice An nn cn, .slice (some ⟨b0, off, none⟩) nd cd]) := hK.out
    clear hav hh
    go_upto_region 16 with (fail)
    refine za (S := fun W' => W'.cell? ⟨w.heap.size, 1, none⟩ = some (.slice (some ⟨b0, off, none⟩) nd cd) ∧ W'.cell? ⟨be, oe + k, none⟩ = some (.int .i64 (d : Int)) ∧ W'.cell? ⟨b0, off + d * 5 + 2, none⟩ = some (.int .i64 xa)) (J := []) (n := _) ((0, true) :: (1, true) :: (2, true) :: (3, true) :: (4, true) :: (5, true) :: (6, true) :: (7, true) :: (8, true) :: (9, true) :: (10, true) :: (11, true) :: (12, true) :: (13, true) :: (14, false) :: (15, true) :: []) (by as_aux_lemma => kernel_rfl) (by rfl) (zM (k := 3) (by go_simp; rfl) (zM (k := 8) (by go_simp; rfl) (zM (k := 16) (by go_simp; rfl) (zM (k := 15) (by go_simp; rfl) (zM (k := 13) (by go_simp; rfl) yH))))) ?_ (fun _ _ _ _ _ h => h) (fun Q2 A hsz hbase hn2 AA => ?_)
    ·exact HCS.out
    try dsimp only at AA
    obtain ⟨b3, b8, b16, b15, b13, -⟩ := hbase
    refine oT 0 55 ?_ rfl rfl (zB rfl) AA (fun ρ AB w hSw => ?_) ?_
    rotate_left
    ·(have e3 := tm AB hsz 3 rfl (zF b3); clear AB; (try dsimp only at hSw); go_simp; try with_reducible rfl)
    refine oT 1 56 ?_ rfl rfl (zB rfl) AA (fun ρ AB w hSw => ?_) ?_
    rotate_left
    ·(have e55 := tm AB hsz 55 rfl zA; clear AB; (try dsimp only at hSw); have k1 := hSw.1; clear hSw; go_simp; try with_reducible rfl)
    refine oM 2 57 ?_ rfl rfl rfl (zB rfl) AA (fun ρ AB => ?_) ?_
    rotate_left
    ·(have e8 := tm AB hsz 8 rfl (zC rfl (zC rfl (zF b8))); exact e8)
    refine oM 3 58 ?_ rfl rfl rfl (zB rfl) AA (fun ρ AB => ?_) ?_
    rotate_left
    ·(have e16 := tm AB hsz 16 rfl (zC rfl (zC rfl (zC rfl (zF b16)))); exact e16)
    refine oT 4 59 ?_ rfl rfl (zB rfl) AA (fun ρ AB w hSw => ?_) ?_
    rotate_left
    ·(have e57 := tm AB hsz 57 rfl (zC rfl zA); have e58 := tm AB hsz 58 rfl zA; clear AB; (try dsimp only at hSw); go_simp; try with_reducible rfl)
    refine oT 5 60 ?_ rfl rfl (zB rfl) AA (fun ρ AB w hSw => ?_) ?_
    rotate_left
    ·(have e59 := tm AB hsz 59 rfl zA; clear AB; (try dsimp only at hSw); have ke := hSw.2.1; clear hSw; go_simp; try with_reducible rfl)
    refine oT 6 61 ?_ rfl rfl (zB rfl) AA (fun ρ AB w hSw => ?_) ?_
    rotate_left
    ·(have e56 := tm AB hsz 56 rfl (zD rfl rfl rfl rfl zA); have e60 := tm AB hsz 60 rfl zA; clear AB; (try dsimp only at hSw); go_simp; try with_reducible rfl)
    refine oT 7 62 ?_ rfl rfl (zB rfl) AA (fun ρ AB w hSw => ?_) ?_
    rotate_left
    ·(have e61 := tm AB hsz 61 rfl zA; clear AB; (try dsimp only at hSw); go_simp; try with_reducible rfl)
    refine oT 8 63 ?_ rfl rfl (zB rfl) AA (fun ρ AB w hSw => ?_) ?_
    rotate_left
    ·(have e62 := tm AB hsz 62 rfl zA; clear AB; (try dsimp only at hSw); have ka := hSw.2.2; clear hSw; go_simp; try with_reducible rfl)
    refine oM 9 64 ?_ rfl rfl rfl (zB rfl) AA (fun ρ AB => ?_) ?_
    rotate_left
    ·(have e15 := tm AB hsz 15 rfl (zD rfl rfl rfl rfl (zD rfl rfl rfl rfl (zC rfl (zF b15)))); exact e15)
    refine oT 10 65 ?_ rfl rfl (zB rfl) AA (fun ρ AB w hSw => ?_) ?_
    rotate_left
    ·(have e63 := tm AB hsz 63 rfl (zC rfl zA); have e64 := tm AB hsz 64 rfl zA; clear AB; (try dsimp only at hSw); go_simp; try with_reducible rfl)
    refine oM 11 66 ?_ rfl rfl rfl (zB rfl) AA (fun ρ AB => ?_) ?_
    rotate_left
    ·(have e65 := tm AB hsz 65 rfl zA; exact e65)
    refine oM 12 67 ?_ rfl rfl rfl (wY 11 66 true rfl hsz rfl rfl rfl zA) AA (fun ρ AB => ?_) ?_
    rotate_left
    ·(have e13 := tm AB hsz 13 rfl (zD rfl rfl rfl rfl (zD rfl rfl rfl rfl (zD rfl rfl rfl rfl (zF b13)))); exact e13)
    refine oM 13 68 ?_ rfl rfl rfl (wY 11 66 true rfl hsz rfl rfl rfl (zC rfl zA)) AA (fun ρ AB => ?_) ?_
    rotate_left
    ·(have e15 := tm AB hsz 15 rfl (zD rfl rfl rfl rfl (zD rfl rfl rfl rfl (zD rfl rfl rfl rfl (zC rfl (zF b15))))); exact e15)
    refine yR (i := 14) (d := 69) (vs := ?_) rfl rfl rfl (wY 11 66 true rfl hsz rfl rfl rfl (zC rfl (zC rfl zA))) (fun ρ AB => ?_) ?_ ?_
    rotate_left
    ·(have e67 := tm AB hsz 67 rfl (zC rfl zA); have e68 := tm AB hsz 68 rfl zA; simp only [List.map_toArray, List.map_cons, List.map_nil, e67, e68]; try with_reducible rfl)
    ·(intro w; go_simp)
    refine HRH.out.mono ?_
    rintro e w7 ⟨rfl, rfl⟩
    rw [HHB.out]
    refine ⟨_, rfl, fun _ => ?_, fun AA' => ?_⟩
    ·exact HCS.out
    replace AA := AA' rfl
    clear AA'
    try dsimp only at AA
    refine oT 15 70 ?_ rfl rfl (zB rfl) AA (fun ρ AB w hSw => ?_) ?_
    rotate_left
    ·(have hc := AB.const; have e66 := tm AB hsz 66 rfl (zC rfl (zC rfl (zC rfl zA))); have e69 := tm AB hsz 69 rfl zA; clear AB; (try dsimp only at hSw); go_simp; try with_reducible rfl)
    refine yG hn2 ?_
    clear AA hn2 b3 b8 b16 b15 b13 hsz A Q2
    simp only [yF, zu, yQ, xO, xP]
    clear q HRG HRH HCS hK hB
    generalize wr.drew = W6 at *
    have hz6 := HB5.out.size
    have HI3 := HO2
    go_wp2_with (at_builtin; go_must (refine zW rfl (.tmp 71) (.tmp 73) rfl yX (by rfl) (World.ownsRow.alloc HI3.out _) (by rfl) (Sl.newest (n := 1) (by simp) (by rfl) (by decide)) (by simp [Value.oneCell']) (by omega) (by omega) (by simp; omega) ?_; intro A2 co3 w8 hown5 hgr5 hat5; have HO5 := iD hown5; have HG5 := iD hgr5; clear hown5 hgr5 hat5))
    have HB8 : Hid (Below w4.heap.size w4 w8) := (HB5.out.alloc hz6 _).trans ⟨HG5.out.os, HG5.out.tape, HG5.out.output, HG5.out.size, fun t ht => HG5.out.block t (by simp; omega) (fun e => by have := (HI3.out.lt t e.symm).1; omega)⟩
    have HK8 : Hid (Blk w8 w.heap.size 30 #[.slice An nn cn, .slice (some ⟨b0, off, none⟩) nd cd]) := (HK5.out.alloc _).keep (HG5.out.block _ (by simp; have := HK5.out.lt; omega) (fun e => by have := (HI3.out.lt _ e.symm).1; have := HKL.out; omega))
    have HO8 : Hid (zQ w8 w4.heap.size A2 (m + 1) co3 ((yC (i + 1) R).filter (sX ds er))) := by
     unfold Hid
     rw [HFL.out]
     unfold zQ
     rw [zw]
     exact HO5.out
    go_roundg (nn - (i + 1))
    case rel => exact ⟨i + 1, m + 1, co3, A2, rfl, by go_num, by omega, rfl, by omega, HK8, HB8, HO8⟩
    case measure => omega
end
section
open Go.RowKit
theorem pV (An Ad Al Az : Option Addr) (nn cn nd cd nl cl n c : Nat) (ns : List Nd) (ds : List Dv) (ls : List Lk) (z : List Int) (w : World) (hl : Laid w) (hn : Sl w w.heap.size 3 An nn cn (ns.flatMap Nd.cells)) (hd : Sl w w.heap.size 5 Ad nd cd (ds.flatMap Dv.cells)) (hs : Sl w w.heap.size 3 Al nl cl (ls.flatMap Lk.cells)) (hz : Sl w w.heap.size 1 Az n c (zK z))
 (hsn : ∀ x ∈ ns, x.name.size ≤ 9223372036854775807) (hsd : ∀ x ∈ ds, x.name.size ≤ 9223372036854775807) (hnz : n ≤ 10000) (hnd : nd ≤ 1000) :
 Calls Tryz.prog 59 #[.agg #[.slice An nn cn, .slice Ad nd cd], .slice Al nl cl, .slice Az n c] w (sE w (zv ns ds ls z) (oC ns ds ls z)) := by
 have HLN := iD (hn.len (fun _ => rfl) (by decide))
 have HB : Hid (Below w.heap.size w (w.alloc (.cells #[.slice An nn cn, .slice Ad nd cd] 30))) := (Below.refl _ _).alloc lR _
 have HK := iD (Blk.new w 30 #[.slice An nn cn, .slice Ad nd cd])
 have HC := iD (pW An Ad Al Az nn cn nd cd nl cl n c ns ds ls z (w.alloc (.cells #[.slice An nn cn, .slice Ad nd cd] 30)) (hl.alloc _) ((hn.alloc lR _).more (by simp)) ((hd.alloc lR _).more (by simp)) ((hs.alloc lR _).more (by simp)) ((hz.alloc lR _).more (by simp)) hsn hsd hnz hnd)
 have HD := iD hd; have HZ := iD hz
 have HLZ := iD (hz.len (fun _ => rfl) (by decide))
 clear hl hn hd hs hz hsn hsd
 go_enter Tryz.func59, Tryz.ntmps59
 go_wp2_with fail
 generalize World.alloc w _ = W at *
 refine HC.out.mono ?_
 rintro e w1 ⟨hcase, hb1⟩
 have HB1 := iD (HB.out.trans (hb1.out.mono HB.out.size))
 have HK1 := iD (HK.out.below hb1.out HK.out.lt)
 clear HB HK HC
 rcases hcase with ⟨he, rfl⟩ | ⟨he, Ae, ne, ce, rfl, hoe⟩
 ·have q : (zv ns ds ls z != 0) = true := by simpa using he
  have HNZ := iD he
  clear he hb1
  go_wp2_with fail
  go_ret2
  exact ⟨.inl ⟨HNZ.out, rfl⟩, HB1.out⟩
 have HEZ := iD he
 have HZE : Hid (zd ns ds z = 0) := by
  unfold Hid
  unfold zv at he
  split at he
  ·next h => exact absurd he h
  ·exact he
 obtain ⟨hck, hzp, hzr⟩ := y5 HZE.out
 have HOK := iD (vu.of hck)
 have hnl := HOK.out.nl
 have hnn : nn ≤ 10000 := by have := HLN.out; omega
 have HZI : Hid (∀ v ∈ z, 0 ≤ v ∧ v < nn) := fun v hv => by have := vP hzr v hv; rw [HLN.out] at this; omega
 have HEN : Hid (xG nn ds) := by have := HOK.out.e; rw [HLN.out] at this; exact this
 have HAO : Hid (AOk nn ds) := by have := HOK.out.a; rw [HLN.out] at this; exact this
 clear he hck hzp hzr hnl
 have hzw := HB1.out.size
 have k0 : w1.cell? ⟨w.heap.size, 0, none⟩ = some (.slice An nn cn) := HK1.out.cell 0
 have k1 : w1.cell? ⟨w.heap.size, 1, none⟩ = some (.slice Ad nd cd) := HK1.out.cell 1
 go_wp2_with fail
 clear k0 k1
 refine (lG An Ad Az Ae nn cn nd cd n c ne ce ds (qM ns ds ls z) z w1 ((HD.out.below HB1.out lR).more hzw) ((HZ.out.below HB1.out lR).more hzw) hoe.out.sl hnn HEN.out HAO.out HOK.out.ne HZI.out hnz).mono ?_
 rintro e w2 ⟨A2, c2, rfl, hO, hb2⟩
 clear hb1 hoe
 go_wp2_with fail
 go_ret2
 exact ⟨.inr ⟨HEZ.out, A2, _, c2, rfl, hO.out.mono hzw⟩, HB1.out.trans (hb2.out.mono hzw)⟩
theorem n7 (An Ad Al Az : Option Addr) (nn cn nd cd nl cl n c : Nat) (ns : List Nd) (ds : List Dv) (ls : List Lk) (z : List Int) (w : World) (hl : Laid w) (hn : Sl w w.heap.size 3 An nn cn (ns.flatMap Nd.cells)) (hd : Sl w w.heap.size 5 Ad nd cd (ds.flatMap Dv.cells)) (hs : Sl w w.heap.size 3 Al nl cl (ls.flatMap Lk.cells)) (hz : Sl w w.heap.size 1 Az n c (zK z))
 (hsn : ∀ x ∈ ns, x.name.size ≤ 9223372036854775807) (hsd : ∀ x ∈ ds, x.name.size ≤ 9223372036854775807) (hnz : n ≤ 10000) (hnd : nd ≤ 1000) :
 Calls Tryz.prog 21 #[.agg #[.slice An nn cn, .slice Ad nd cd], .slice Al nl cl, .slice Az n c] w (tA w (zv ns ds ls z) (vU ns ds ls z)) := by
 have HB : Hid (Below w.heap.size w (w.alloc (.cells #[.slice An nn cn, .slice Ad nd cd] 30))) := (Below.refl _ _).alloc lR _
 have HC := iD (pV An Ad Al Az nn cn nd cd nl cl n c ns ds ls z (w.alloc (.cells #[.slice An nn cn, .slice Ad nd cd] 30)) (hl.alloc _) ((hn.alloc lR _).more (by simp)) ((hd.alloc lR _).more (by simp)) ((hs.alloc lR _).more (by simp)) ((hz.alloc lR _).more (by simp)) hsn hsd hnz hnd)
 have hzl := HB.out.size
 clear hl hn hd hs hz hsn hsd
 go_enter Tryz.func21, Tryz.ntmps21
 go_wp2_with fail
 generalize World.alloc w _ = W at *
 refine HC.out.mono ?_
 rintro e w1 ⟨hcase, hb1⟩
 have HB1 := iD (HB.out.trans (hb1.out.mono HB.out.size))
 clear HB HC
 rcases hcase with ⟨he, rfl⟩ | ⟨he, Ae, ne, ce, rfl, hoe⟩
 ·have q : (zv ns ds ls z == 0) = false := by simpa using he
  have HNZ := iD he
  clear he hb1
  go_wp2_with fail
  go_ret2
  exact ⟨by rw [decide_eq_false HNZ.out]; rfl, HB1.out⟩
 have HEZ := iD he
 have HSB : Hid (vU ns ds ls z = ((ne : Int) == 0)) := by
  unfold Hid vU
  have := hoe.out.len
  cases hh : oC ns ds ls z <;> rw [hh] at this <;> simp at this ⊢ <;> omega
 clear he hb1 hoe
 go_wp2_with fail
 go_ret2
 exact ⟨by rw [HEZ.out, HSB.out]; rfl, HB1.out⟩
end
section
open Go.RowKit
attribute [local go_sem ↓] Go.wp_at_zero Go.wp_at_succ
def mX (k : Nat) : List UInt8 := [[], [76], [81], [68], [69], [83], [71]].getD k []
section
variable {w0 w W W' : World} {g : Nat} {dmax : Int} {An Ad : Option Addr} {nn cn nd cd kind t : Nat} {ns : List Nd} {ds : List Dv} {LT : ByteArray}
theorem yp.nb_row (h : yp w0 g dmax An nn cn ns Ad nd cd ds W) (hg : W.grownBy W' (Value.slice Ad nd cd).ownBlock) : Blk W' (w0.heap.size + 3) 30 #[.slice An nn cn, .slice Ad nd cd] := h.nb.grown hg (fun e => by have := (h.rd.lt _ e.symm).1; omega)
end
end
end Go.Proofs.YtepicjpdhpojnaaGreatDoor
