import Derived.Test.YtepicjpdhpojnaaGreatDoorS09
import Derived.Test.YtepicjpdhpojnaaGreatDoorS03
import Derived.Test.YtepicjpdhpojnaaGreatDoorShelf
import Derived.Sort.OwnSortedInts
import Derived.Test.YtepicjpdhpojnaaGreatDoorS25
import Derived.Test.YtepicjpdhpojnaaGreatDoorS02
set_option maxRecDepth 100000
set_option maxHeartbeats 8000000
namespace Go.Proofs.YtepicjpdhpojnaaGreatDoor
open Go.RowKit
def gapB (k : Int) : Bool := k == 1 || k == 3 || k == 6
def thoB (ds : List Dv) (ls : List Lk) (pos : Int) (p : Int → Bool) (i : Nat) : Bool := decide (lckL ls i = some pos) && p (kindOf ds i)
def thoTo (ds : List Dv) (ls : List Lk) (pos : Int) (p : Int → Bool) (n : Nat) : List Int := ((List.range n).filter (thoB ds ls pos p)).map fun i : Nat => (i : Int)
theorem thoTo_succ (ds : List Dv) (ls : List Lk) (pos : Int) (p : Int → Bool) (n : Nat) : thoTo ds ls pos p (n + 1) = if thoB ds ls pos p n = true then thoTo ds ls pos p n ++ [(n : Int)] else thoTo ds ls pos p n := by
 unfold thoTo
 rw [List.range_succ, List.filter_append, List.map_append]
 rcases h : thoB ds ls pos p n with _ | _ <;> simp [h]
theorem thoTo_mem {ds : List Dv} {ls : List Lk} {pos : Int} {p : Int → Bool} {n i : Nat} (hi : i < n) : (i : Int) ∈ thoTo ds ls pos p n ↔ thoB ds ls pos p i = true := by
 unfold thoTo
 constructor
 ·intro h
  obtain ⟨j, hj, e⟩ := List.mem_map.1 h
  obtain rfl : j = i := by omega
  exact (List.mem_filter.1 hj).2
 ·intro h
  exact List.mem_map.2 ⟨i, List.mem_filter.2 ⟨List.mem_range.2 hi, h⟩, rfl⟩
def IntsEPost (w : World) (er : Int) (l : List Int) (e : Ending) (w' : World) : Prop :=
 (er ≠ 0 ∧ e = .returned (.tuple #[.slice none 0 0, .int .i64 er]) ∨ er = 0 ∧ ∃ (A : Option Addr) (c : Nat), e = .returned (.tuple #[.slice A l.length c, .int .i64 0]) ∧ Hid (IntsO w' w.heap.size A l.length c l)) ∧ Hid (Below w.heap.size w w')
theorem IntsEPost.ok {w w' : World} {er : Int} {l : List Int} {e : Ending} (h : IntsEPost w er l e w') (h0 : er = 0) : ∃ (A : Option Addr) (c : Nat), e = .returned (.tuple #[.slice A l.length c, .int .i64 0]) ∧ Hid (IntsO w' w.heap.size A l.length c l) ∧ Hid (Below w.heap.size w w') := by
 obtain ⟨⟨h1, _⟩ | ⟨_, A, c, h1, h2⟩, h3⟩ := h
 ·exact absurd h0 h1
 ·exact ⟨A, c, h1, h2, h3⟩
def PredK (g : Nat) (p : Int → Bool) : Prop := ∀ (W : World) (k : Int), Calls Tryz.prog g #[.int .i64 k] W fun e w' => e = .returned (.bool (p k)) ∧ W = w'
theorem gap_any : PredK 147 gapB := by
 intro w k
 by_cases h1 : k = 1
 ·subst h1
  go_enter Tryz.func147, Tryz.ntmps147
  go_wp2_with fail
  go_ret
  exact ⟨rfl, rfl⟩
 ·have q1 : (k == 1) = false := by simpa using h1
  by_cases h2 : k = 3
  ·subst h2
   go_enter Tryz.func147, Tryz.ntmps147
   go_wp2_with fail
   go_ret
   exact ⟨rfl, rfl⟩
  ·have q2 : (k == 3) = false := by simpa using h2
   have HR : Hid (gapB k = (k == 6)) := by unfold Hid gapB; rw [q1, q2]; simp
   go_enter Tryz.func147, Tryz.ntmps147
   go_wp2_with fail
   go_ret
   exact ⟨ret_bool HR.out.symm, rfl⟩
theorem isearth_any : PredK 146 (fun k => k == 4) := by
 intro w k
 go_enter Tryz.func146, Tryz.ntmps146
 go_wp2_with fail
 go_ret
 exact ⟨rfl, rfl⟩
def ThR (w : World) (N : Array Value) (ds : List Dv) (ls : List Lk) (pos : Int) (p : Int → Bool) (n gk : Nat) (ov iv : Value) (wr : World) : Prop := ∃ (i m c : Nat) (A : Option Addr), ov = .slice A m c ∧ iv = .int .i64 i ∧ i ≤ n ∧ gk = n - i ∧ m ≤ i ∧ Hid ((thoTo ds ls pos p i).length = m) ∧ Hid (IntsO wr (w.heap.size + 1) A m c (thoTo ds ls pos p i)) ∧ Hid (PcSt w N wr)
theorem those_any (g : Nat) (p : Int → Bool) (eg : ∀ args w, (callFunc g args).run Tryz.prog w = .ok (.enter g args) w) (hp : PredK g p) (pos : Int) (An Ad Al : Option Addr) (nn cn nd cd n c Bn Bd Bl : Nat) (ns : List Nd) (ds : List Dv) (ls : List Lk) (w : World) (hla : Laid w) (hn : Sl w Bn 3 An nn cn (ns.flatMap Nd.cells)) (hd : Sl w Bd 5 Ad nd cd (ds.flatMap Dv.cells)) (hs : Sl w Bl 3 Al n c (ls.flatMap Lk.cells)) (hBn : Bn ≤ w.heap.size) (hBd : Bd ≤ w.heap.size) (hBl : Bl ≤ w.heap.size) (hnd : nd ≤ 1000)
 (hsn : ∀ x ∈ ns, x.name.size ≤ 9223372036854775807) (hsd : ∀ x ∈ ds, x.name.size ≤ 9223372036854775807) :
 Calls Tryz.prog 145 #[.agg #[.slice An nn cn, .slice Ad nd cd], .slice Al n c, .int .i64 pos, .func (.func g) #[] #[]] w (IntsEPost w (locksErr ns ds ls) (thoTo ds ls pos p nd)) := by
 have HS := Lib.hid hs; have HD := Lib.hid hd
 have hdl := hd.le
 have HST : Hid (PcSt w #[.slice An nn cn, .slice Ad nd cd] (w.alloc (.cells #[.slice An nn cn, .slice Ad nd cd] 30))) := ⟨Blk.new _ _ _, (Below.refl _ _).alloc (Nat.le_refl _) _⟩
 have HCK := Lib.hid (lcheck_any An Ad Al nn cn nd cd n c Bn Bd Bl ns ds ls (w.alloc (.cells #[.slice An nn cn, .slice Ad nd cd] 30)) (hla.alloc _) (hn.below HST.out.bl hBn) (hd.below HST.out.bl hBd) (hs.below HST.out.bl hBl) (by simp; omega) (by simp; omega) (by simp; omega) hsn hsd)
 have HP := Lib.hid hp
 clear hn hd hs hsn hsd hla hp
 go_enter Tryz.func145, Tryz.ntmps145
 go_wp2_with fail
 generalize World.alloc _ _ = W at *
 refine HCK.out.mono ?_
 rintro e w1 ⟨rfl, hb1⟩
 have HS1 := Lib.hid (HST.out.later hb1)
 clear hb1 HST HCK
 by_cases h0 : locksErr ns ds ls = 0; rotate_left
 ·have q0 : (locksErr ns ds ls != 0) = true := by simpa using h0
  have HNZ := Lib.hid h0
  clear h0
  go_wp2_with fail
  go_ret2
  exact ⟨.inl ⟨HNZ.out, rfl⟩, HS1.out.bl⟩
 have HZ := Lib.hid h0
 rw [h0]
 clear h0
 have k1 : w1.cell? ⟨w.heap.size, 1, none⟩ = some (.slice Ad nd cd) := HS1.out.bn.cell 1
 go_wp2_with fail
 clear k1
 go_loopg [11, 25] nd (ThR w #[.slice An nn cn, .slice Ad nd cd] ds ls pos p nd)
 case atStart => exact ⟨0, 0, 0, none, rfl, rfl, Nat.zero_le _, rfl, Nat.le_refl _, rfl, World.ownsRow_nil _ _ _ _, HS1⟩
 case round =>
  clear HS1
  obtain ⟨i, m, c3, A, rfl, rfl, hi, rfl, hmi, hlen, hO, hst⟩ := hrel
  by_cases hlt : i < nd
  ·obtain ⟨b, off, x, rfl, hb, hx, hc⟩ := (HD.out.below hst.out.bl hBd).at (fun _ => rfl) (by decide) hlt
   have HKO := Lib.hid (kindOf_at hx)
   obtain ⟨nm, kd, xa, xb, co⟩ := x
   have c0 : wr.cell? ⟨b, off + i * 5, none⟩ = some (.string nm) := hc 0 _ rfl
   have c1 : wr.cell? ⟨b, off + i * 5 + 1, none⟩ = some (.int .i64 kd) := hc 1 _ rfl
   have c2 : wr.cell? ⟨b, off + i * 5 + 2, none⟩ = some (.int .i64 xa) := hc 2 _ rfl
   have c3' : wr.cell? ⟨b, off + i * 5 + 3, none⟩ = some (.int .i64 xb) := hc 3 _ rfl
   have c4 : wr.cell? ⟨b, off + i * 5 + 4, none⟩ = some (.int .i64 co) := hc 4 _ rfl
   clear hc hx
   have HS2 : Hid (PcSt w _ (wr.alloc (.cells #[.string nm, .int .i64 kd, .int .i64 xa, .int .i64 xb, .int .i64 co] 38))) := hst.out.later ((Below.refl _ _).alloc (Nat.le_refl _) _)
   have HK2 : Hid (Blk (wr.alloc (.cells #[.string nm, .int .i64 kd, .int .i64 xa, .int .i64 xb, .int .i64 co] 38)) wr.heap.size 38 #[.string nm, .int .i64 kd, .int .i64 xa, .int .i64 xb, .int .i64 co]) := Blk.new _ _ _
   have HO2 : Hid (IntsO (wr.alloc (.cells #[.string nm, .int .i64 kd, .int .i64 xa, .int .i64 xb, .int .i64 co] 38)) (w.heap.size + 1) A m c3 (thoTo ds ls pos p i)) := World.ownsRow.alloc hO.out _
   have hzr := hst.out.bn.lt
   clear hst hO
   go_upto_region 8 with (fail)
   clear c0 c1 c2 c3' c4
   generalize World.alloc wr _ = W2 at *
   have hz2 := HS2.out.bl.size
   go_wp2_with fail
   refine (locked_any Al n c Bl ls i W2 (HS.out.below HS2.out.bl hBl) (by omega)).mono ?_
   rintro e w3 ⟨rfl, hb3⟩
   have HS3 := Lib.hid (HS2.out.later hb3)
   have HK3 := Lib.hid (HK2.out.below hb3 HK2.out.lt)
   have HO3 := Lib.hid (HO2.out.later hb3)
   clear hb3 HS2 HK2 HO2 hz2
   unfold lckE
   have HSU := Lib.hid (thoTo_succ ds ls pos p i)
   have HTB : Hid (thoB ds ls pos p i = (decide (lckL ls i = some pos) && p kd)) := by unfold Hid thoB; rw [HKO.out]
   have hz3 := HS3.out.bn.lt
   rcases hl : lckL ls i with _ | pv
   ·have HF : Hid (thoTo ds ls pos p (i + 1) = thoTo ds ls pos p i) := by unfold Hid; rw [HSU.out, HTB.out, hl]; rfl
    clear hl
    simp only [Option.getD_none, Option.isSome_none]
    go_wp2_with fail
    go_roundg (nd - (i + 1))
    case rel => exact ⟨i + 1, m, c3, A, rfl, by go_num, by omega, rfl, by omega, by rw [HF.out]; exact hlen, by rw [HF.out]; exact HO3, HS3⟩
    case measure => omega
   ·simp only [Option.getD_some, Option.isSome_some]
    by_cases hpp : pv = pos
    ·subst hpp
     have qp : (pv == pv) = true := by simp
     have k1 : w3.cell? ⟨wr.heap.size, 1, none⟩ = some (.int .i64 kd) := HK3.out.cell 1
     rcases hpk : p kd with _ | _
     ·have hcall := HP.out w3 kd
      rw [hpk] at hcall
      have HF : Hid (thoTo ds ls pv p (i + 1) = thoTo ds ls pv p i) := by unfold Hid; rw [HSU.out, HTB.out, hl, hpk]; simp
      clear hl hpk
      go_wp2_with (go_at_fn g; refine hcall.mono ?_; rintro e w' ⟨rfl, rfl⟩)
      go_roundg (nd - (i + 1))
      case rel => exact ⟨i + 1, m, c3, A, rfl, by go_num, by omega, rfl, by omega, by rw [HF.out]; exact hlen, by rw [HF.out]; exact HO3, HS3⟩
      case measure => omega
     ·have hcall := HP.out w3 kd
      rw [hpk] at hcall
      have HF : Hid (thoTo ds ls pv p (i + 1) = thoTo ds ls pv p i ++ [(i : Int)]) := by unfold Hid; rw [HSU.out, HTB.out, hl, hpk]; simp
      clear hl hpk
      go_upto_region 10 with (go_at_fn g; refine hcall.mono ?_; rintro e w' ⟨rfl, rfl⟩)
      clear k1 qp hcall
      go_wp2_with (at_builtin; go_must (refine wpList_app rfl (.tmp 48) (.tmp 50) rfl el_int (by rfl) (World.ownsRow.alloc HO3.out _) (by rfl) (Sl.newest (n := 1) (by simp) (by rfl) (by decide)) (by simp [Value.oneCell']) (by omega) (by omega) (by simp; omega) ?_; intro A' cap' w5 hown5 hgr5 hat5; have HO5 := Lib.hid hown5; have HG5 := Lib.hid hgr5; clear hown5 hgr5 hat5))
      go_roundg (nd - (i + 1))
      case rel =>
       have hr1 : ∀ b, (Value.slice A m c3).ownBlock = some b → w.heap.size + 1 ≤ b := fun b e => (HO3.out.lt b e).1
       have hg5 := HG5.out
       have hb5 : Below (w.heap.size + 1) w3 w5 := ((Below.refl _ _).alloc hz3 _).trans ⟨hg5.os, hg5.tape, hg5.output, hg5.size, fun t ht => hg5.block t (by simp; omega) (fun e => by have := hr1 t e.symm; omega)⟩
       refine ⟨i + 1, m + 1, cap', A', rfl, by go_num, by omega, rfl, by omega, ?_, ?_, ⟨HS3.out.bn.below hb5 (by omega), HS3.out.bl.trans (hb5.mono (by omega))⟩⟩
       ·unfold Hid; rw [HF.out, List.length_append, hlen.out]; rfl
       ·unfold Hid IntsO; rw [HF.out, intsV_append]; exact HO5.out
      case measure => omega
    ·have qp : (pv == pos) = false := by simpa using hpp
     have HF : Hid (thoTo ds ls pos p (i + 1) = thoTo ds ls pos p i) := by unfold Hid; rw [HSU.out, HTB.out, hl]; simp [hpp]
     clear hl hpp
     go_wp2_with fail
     go_roundg (nd - (i + 1))
     case rel => exact ⟨i + 1, m, c3, A, rfl, by go_num, by omega, rfl, by omega, by rw [HF.out]; exact hlen, by rw [HF.out]; exact HO3, HS3⟩
     case measure => omega
  ·obtain rfl : i = nd := by omega
   have hii : decide (i < i) = false := by simp
   go_wp2_with fail
   go_ret2
   refine ⟨.inr ⟨HZ.out, A, c3, by rw [hlen.out]; rfl, ?_⟩, hst.out.bl⟩
   unfold Hid; rw [hlen.out]; exact hO.out.mono (by omega)
theorem gaps_any (An Ad Al : Option Addr) (nn cn nd cd n c Bn Bd Bl : Nat) (ns : List Nd) (ds : List Dv) (ls : List Lk) (w : World) (hla : Laid w) (hn : Sl w Bn 3 An nn cn (ns.flatMap Nd.cells)) (hd : Sl w Bd 5 Ad nd cd (ds.flatMap Dv.cells)) (hs : Sl w Bl 3 Al n c (ls.flatMap Lk.cells)) (hBn : Bn ≤ w.heap.size) (hBd : Bd ≤ w.heap.size) (hBl : Bl ≤ w.heap.size) (hnd : nd ≤ 1000)
 (hsn : ∀ x ∈ ns, x.name.size ≤ 9223372036854775807) (hsd : ∀ x ∈ ds, x.name.size ≤ 9223372036854775807) :
 Calls Tryz.prog 133 #[.agg #[.slice An nn cn, .slice Ad nd cd], .slice Al n c] w (IntsEPost w (locksErr ns ds ls) (thoTo ds ls 1 gapB nd)) := by
 have HB : Hid (Below w.heap.size w (w.alloc (.cells #[.slice An nn cn, .slice Ad nd cd] 30))) := (Below.refl _ _).alloc (Nat.le_refl _) _
 have HC := Lib.hid (those_any 147 gapB (enters_of Tryz.func147 (by kernel_rfl) rfl) gap_any 1 An Ad Al nn cn nd cd n c Bn Bd Bl ns ds ls (w.alloc (.cells #[.slice An nn cn, .slice Ad nd cd] 30)) (hla.alloc _) (hn.below HB.out hBn) (hd.below HB.out hBd) (hs.below HB.out hBl) (by simp; omega) (by simp; omega) (by simp; omega) hnd hsn hsd)
 have HW : Hid ((w.alloc (.cells #[.slice An nn cn, .slice Ad nd cd] 30)).heap.size = w.heap.size + 1) := by unfold Hid; simp
 clear hn hd hs hla
 generalize thoTo ds ls 1 gapB nd = l at *
 go_enter Tryz.func133, Tryz.ntmps133
 go_wp2_with fail
 generalize World.alloc _ _ = W at *
 refine HC.out.mono ?_
 rintro e w1 ⟨⟨h1, rfl⟩ | ⟨h1, A, c1, rfl, hO⟩, hb⟩
 ·have HNZ := Lib.hid h1
  clear h1
  go_wp2_with fail
  go_ret2
  exact ⟨.inl ⟨HNZ.out, rfl⟩, HB.out.trans (hb.out.mono HB.out.size)⟩
 ·have HZ := Lib.hid h1
  clear h1
  go_wp2_with fail
  go_ret2
  exact ⟨.inr ⟨HZ.out, A, c1, rfl, hO.out.mono (by have := HW.out; omega)⟩, HB.out.trans (hb.out.mono HB.out.size)⟩
theorem earths_any (An Ad Al : Option Addr) (nn cn nd cd n c Bn Bd Bl : Nat) (ns : List Nd) (ds : List Dv) (ls : List Lk) (w : World) (hla : Laid w) (hn : Sl w Bn 3 An nn cn (ns.flatMap Nd.cells)) (hd : Sl w Bd 5 Ad nd cd (ds.flatMap Dv.cells)) (hs : Sl w Bl 3 Al n c (ls.flatMap Lk.cells)) (hBn : Bn ≤ w.heap.size) (hBd : Bd ≤ w.heap.size) (hBl : Bl ≤ w.heap.size) (hnd : nd ≤ 1000)
 (hsn : ∀ x ∈ ns, x.name.size ≤ 9223372036854775807) (hsd : ∀ x ∈ ds, x.name.size ≤ 9223372036854775807) :
 Calls Tryz.prog 132 #[.agg #[.slice An nn cn, .slice Ad nd cd], .slice Al n c] w (IntsEPost w (locksErr ns ds ls) (thoTo ds ls 2 (fun k => k == 4) nd)) := by
 have HB : Hid (Below w.heap.size w (w.alloc (.cells #[.slice An nn cn, .slice Ad nd cd] 30))) := (Below.refl _ _).alloc (Nat.le_refl _) _
 have HC := Lib.hid (those_any 146 (fun k => k == 4) (enters_of Tryz.func146 (by kernel_rfl) rfl) isearth_any 2 An Ad Al nn cn nd cd n c Bn Bd Bl ns ds ls (w.alloc (.cells #[.slice An nn cn, .slice Ad nd cd] 30)) (hla.alloc _) (hn.below HB.out hBn) (hd.below HB.out hBd) (hs.below HB.out hBl) (by simp; omega) (by simp; omega) (by simp; omega) hnd hsn hsd)
 have HW : Hid ((w.alloc (.cells #[.slice An nn cn, .slice Ad nd cd] 30)).heap.size = w.heap.size + 1) := by unfold Hid; simp
 clear hn hd hs hla
 generalize thoTo ds ls 2 (fun k => k == 4) nd = l at *
 go_enter Tryz.func132, Tryz.ntmps132
 go_wp2_with fail
 generalize World.alloc _ _ = W at *
 refine HC.out.mono ?_
 rintro e w1 ⟨⟨h1, rfl⟩ | ⟨h1, A, c1, rfl, hO⟩, hb⟩
 ·have HNZ := Lib.hid h1
  clear h1
  go_wp2_with fail
  go_ret2
  exact ⟨.inl ⟨HNZ.out, rfl⟩, HB.out.trans (hb.out.mono HB.out.size)⟩
 ·have HZ := Lib.hid h1
  clear h1
  go_wp2_with fail
  go_ret2
  exact ⟨.inr ⟨HZ.out, A, c1, rfl, hO.out.mono (by have := HW.out; omega)⟩, HB.out.trans (hb.out.mono HB.out.size)⟩
end Go.Proofs.YtepicjpdhpojnaaGreatDoor
namespace Go.Proofs.YtepicjpdhpojnaaGreatDoor
open Go.RowKit
def hasB (l : List Int) (x : Int) : Bool := l.contains x
theorem hasB_iff (l : List Int) (x : Int) : hasB l x = true ↔ x ∈ l := by unfold hasB; simp
theorem hasB_not (l : List Int) (x : Int) : hasB l x = false ↔ x ∉ l := by rw [← hasB_iff]; simp
theorem contains_any (A : Option Addr) (n c B : Nat) (l : List Int) (x : Int) (w : World) (h : Sl w B 1 A n c (intsV l)) :
 Calls Tryz.prog 151 #[.slice A n c, .int .i64 x] w fun e w' => e = .returned (.bool (hasB l x)) ∧ w = w' := by
 have hl : l.length = n := h.len (fun _ => rfl) (by decide)
 have hle := h.le
 rcases Nat.eq_zero_or_pos n with rfl | h0
 ·have : l = [] := List.eq_nil_of_length_eq_zero hl
  subst this
  refine (Tryz.slices_Contains_int_empty A c x w).mono ?_
  rintro e w1 ⟨rfl, rfl⟩
  exact ⟨rfl, rfl⟩
 ·obtain ⟨b, off, e, hb, hc⟩ := h.2.2.2.2 h0
  subst e
  refine (Tryz.slices_Contains_int b off n c l x w (by omega) (by omega) (fun j hj => hc j _ ?_)).mono ?_
  ·have := flat_at (f := fun z => [Value.int .i64 z]) (size := 1) (fun _ => rfl) l j 0 _ (List.getElem?_eq_getElem hj) (by decide)
   rw [Nat.mul_one] at this
   rw [List.getD_eq_getElem?_getD, List.getElem?_eq_getElem hj]
   exact this
  ·rintro e w1 ⟨rfl, rfl⟩
   rw [List.take_of_length_le (by omega)]
   exact ⟨rfl, rfl⟩
end Go.Proofs.YtepicjpdhpojnaaGreatDoor
namespace Go.Proofs.YtepicjpdhpojnaaGreatDoor
def shutB (s : List Int) (i : Nat) : Bool := s.getD i 0 == 2
def Conn (ds : List Dv) (s : List Int) (u v : Int) : Prop := Rch ds (shutB s) (fun _ => false) [u] v
theorem acr_sym {x : Dv} {u : Int} (h : 0 ≤ acrB x u) : acrB x (acrB x u) = u := by
 unfold acrB at h ⊢
 by_cases hj : joinsB x.kind = false
 ·rw [if_pos hj] at h; omega
 ·simp only [if_neg hj] at h ⊢
  by_cases h1 : x.a = u
  ·simp only [if_pos h1]
   by_cases h2 : x.a = x.b
   ·rw [if_pos h2]; omega
   ·rw [if_neg h2]; simpa using h1
  ·simp only [if_neg h1] at h ⊢
   by_cases h2 : x.b = u
   ·simp only [if_pos h2, if_true]; exact h2
   ·simp only [if_neg h2] at h; omega
section
variable {ds : List Dv} {s : List Int} {u v t : Int} {nn : Nat}
theorem Conn.refl (ds : List Dv) (s : List Int) (u : Int) : Conn ds s u u := .base (List.mem_singleton.2 rfl)
theorem Conn.trans (h : Conn ds s u v) (k : Conn ds s v t) : Conn ds s u t := by
 unfold Conn at k
 induction k with
 | base hv => rw [List.mem_singleton.1 hv]; exact h
 | step _ hs hx hU h0 ih => exact .step ih hs hx hU h0
theorem Conn.nonneg (hu : 0 ≤ u) (h : Conn ds s u v) : 0 ≤ v := by
 unfold Conn at h
 cases h with
 | base hv => rw [List.mem_singleton.1 hv]; exact hu
 | step _ _ _ _ h0 => exact h0
theorem Conn.lt (he : EndsOk nn ds) (hu : u < nn) (h : Conn ds s u v) : v < nn := by
 unfold Conn at h
 cases h with
 | base hv => rw [List.mem_singleton.1 hv]; exact hu
 | step _ _ hx _ h0 => exact acr_lt he hx _ h0
theorem Conn.edge {i : Nat} {x : Dv} (hx : ds[i]? = some x) (hc : shutB s i = true) (h0 : 0 ≤ acrB x u) : Conn ds s u (acrB x u) := .step (Conn.refl ds s u) rfl hx hc h0
theorem Conn.sym (hu : 0 ≤ u) (h : Conn ds s u v) : Conn ds s v u := by
 unfold Conn at h
 induction h with
 | base hv => rw [List.mem_singleton.1 hv]; exact Conn.refl _ _ _
 | step hr _ hx hU h0 ih =>
  rename_i a i x _
  have ha : 0 ≤ a := Conn.nonneg hu hr
  have := Conn.edge (s := s) (u := acrB x a) hx hU (by rw [acr_sym h0]; exact ha)
  rw [acr_sym h0] at this
  exact this.trans ih
end
def IsParts (nn : Nat) (ds : List Dv) (s out : List Int) : Prop := out.length = nn ∧ ∀ v : Nat, v < nn → ∃ p : Nat, out[v]? = some (p : Int) ∧ p ≤ v ∧ Conn ds s p v ∧ ∀ u : Nat, u < nn → Conn ds s u v → p ≤ u
section
variable {nn : Nat} {ds : List Dv} {s out a b : List Int}
theorem IsParts.iff (h : IsParts nn ds s out) {u v : Nat} (hu : u < nn) (hv : v < nn) : out[u]? = out[v]? ↔ Conn ds s u v := by
 obtain ⟨p, h1, h2, h3, h4⟩ := h.2 u hu
 obtain ⟨q, k1, k2, k3, k4⟩ := h.2 v hv
 rw [h1, k1]
 constructor
 ·intro e
  have : p = q := by injection e with e; omega
  subst this
  exact (h3.sym (by omega)).trans k3
 ·intro e
  have e' := e.sym (by omega)
  have a1 := k4 p (by omega) (h3.trans e)
  have a2 := h4 q (by omega) (k3.trans e')
  rw [show p = q by omega]
def PInv (nn : Nat) (ds : List Dv) (s : List Int) (v : Nat) (out : List Int) : Prop :=
 out.length = nn ∧ ∀ t : Nat, t < nn → (out[t]? = some (-1) ∧ ∀ u : Nat, u < v → ¬ Conn ds s u t) ∨ ∃ p : Nat, out[t]? = some (p : Int) ∧ p < v ∧ p ≤ t ∧ Conn ds s p t ∧ ∀ u : Nat, u < nn → Conn ds s u t → p ≤ u
theorem PInv.start (nn : Nat) (ds : List Dv) (s : List Int) : PInv nn ds s 0 (List.replicate nn (-1)) :=
 ⟨List.length_replicate, fun t ht => .inl ⟨by rw [List.getElem?_replicate, if_pos ht], fun u hu => absurd hu (by omega)⟩⟩
theorem PInv.skip {v : Nat} {x : Int} (h : PInv nn ds s v out) (hx : out[v]? = some x) (h0 : 0 ≤ x) : PInv nn ds s (v + 1) out := by
 have hv : v < nn := by rw [← h.1]; exact (List.getElem?_eq_some_iff.1 hx).1
 refine ⟨h.1, fun t ht => ?_⟩
 rcases h.2 t ht with ⟨h1, h2⟩ | ⟨p, h1, h2, h3⟩
 ·refine .inl ⟨h1, fun u hu hc => ?_⟩
  rcases Nat.lt_succ_iff_lt_or_eq.1 hu with hu | rfl
  ·exact h2 u hu hc
  ·rcases h.2 u hv with ⟨k1, _⟩ | ⟨q, k1, k2, _, k3, _⟩
   ·rw [hx] at k1; injection k1; omega
   ·exact h2 q k2 (k3.trans hc)
 ·exact .inr ⟨p, h1, by omega, h3⟩
theorem PInv.flood {v : Nat} {x : Int} {out' : List Int} (h : PInv nn ds s v out) (hx : out[v]? = some x) (h0 : x < 0) (hl : out'.length = out.length) (hu : ∀ y : Nat, y < nn → (Conn ds s v y → out'[y]? = some (v : Int)) ∧ (¬ Conn ds s v y → out'[y]? = out[y]?)) : PInv nn ds s (v + 1) out' := by
 have hv : v < nn := by rw [← h.1]; exact (List.getElem?_eq_some_iff.1 hx).1
 have hno : ∀ u : Nat, u < v → ¬ Conn ds s u v := by
  rcases h.2 v hv with ⟨_, h2⟩ | ⟨p, h1, _⟩
  ·exact h2
  ·rw [hx] at h1; injection h1; omega
 refine ⟨hl.trans h.1, fun t ht => ?_⟩
 by_cases hc : Conn ds s v t
 ·have hc' := hc.sym (by omega)
  have hle : ∀ u : Nat, u < nn → Conn ds s u t → v ≤ u := fun u _ hut => by
   rcases Nat.lt_or_ge u v with h1 | h1
   ·exact absurd (hut.trans hc') (hno u h1)
   ·exact h1
  exact .inr ⟨v, (hu t ht).1 hc, by omega, hle t ht (Conn.refl _ _ _), hc, hle⟩
 ·rw [(hu t ht).2 hc]
  rcases h.2 t ht with ⟨h1, h2⟩ | ⟨p, h1, h2, h3⟩
  ·refine .inl ⟨h1, fun u hu hcu => ?_⟩
   rcases Nat.lt_succ_iff_lt_or_eq.1 hu with hu | rfl
   ·exact h2 u hu hcu
   ·exact hc hcu
  ·exact .inr ⟨p, h1, by omega, h3⟩
theorem PInv.final (h : PInv nn ds s nn out) : IsParts nn ds s out := by
 refine ⟨h.1, fun v hv => ?_⟩
 rcases h.2 v hv with ⟨_, h2⟩ | ⟨p, h1, _, h2, h3⟩
 ·exact absurd (Conn.refl _ _ _) (h2 v hv)
 ·exact ⟨p, h1, h2, h3⟩
end
def Upd (out : List Int) (l : List Bool) (v : Int) (w : Nat) (out' : List Int) : Prop := out'.length = out.length ∧ ∀ y : Nat, y < out.length → out'[y]? = if y < w ∧ l[y]? = some true then some v else out[y]?
section
variable {out out' : List Int} {l : List Bool} {v : Int} {w : Nat}
theorem Upd.start (out : List Int) (l : List Bool) (v : Int) : Upd out l v 0 out := ⟨rfl, fun y _ => by rw [if_neg (by omega)]⟩
theorem Upd.pass (h : Upd out l v w out') (hl : l[w]? = some false) : Upd out l v (w + 1) out' := by
 refine ⟨h.1, fun y hyl => ?_⟩
 rw [h.2 y hyl]
 by_cases hy : y = w
 ·subst hy; rw [if_neg (by omega), if_neg (by rw [hl]; simp)]
 ·by_cases hb : y < w ∧ l[y]? = some true
  ·rw [if_pos hb, if_pos (And.intro (by omega) hb.2)]
  ·rw [if_neg hb, if_neg (fun hc => hb (And.intro (by omega) hc.2))]
theorem Upd.put (h : Upd out l v w out') (hl : l[w]? = some true) : Upd out l v (w + 1) (out'.set w v) := by
 refine ⟨by rw [List.length_set]; exact h.1, fun y hyl => ?_⟩
 rw [List.getElem?_set]
 by_cases hy : w = y
 ·subst hy; rw [if_pos rfl, if_pos (by rw [h.1]; exact hyl), if_pos (And.intro (by omega) hl)]
 ·rw [if_neg hy, h.2 y hyl]
  by_cases hb : y < w ∧ l[y]? = some true
  ·rw [if_pos hb, if_pos (And.intro (by omega) hb.2)]
  ·rw [if_neg hb, if_neg (fun hc => hb (And.intro (by omega) hc.2))]
end
theorem rep_set (n i : Nat) (l : List Int) (hl : l.length = n) (h : ∀ j, j < i → l[j]? = some (-1)) (hi : i < n) : ∀ j, j < i + 1 → (l.set i (-1))[j]? = some (-1 : Int) := by
 intro j hj
 rw [List.getElem?_set]
 split
 ·rw [if_pos (by omega)]
 ·exact h j (by omega)
theorem rep_all (n : Nat) (l : List Int) (hl : l.length = n) (h : ∀ j, j < n → l[j]? = some (-1)) : l = List.replicate n (-1 : Int) := by
 apply List.ext_getElem?
 intro j
 by_cases hj : j < n
 ·rw [h j hj, List.getElem?_replicate, if_pos hj]
 ·rw [List.getElem?_eq_none (by omega), List.getElem?_replicate, if_neg hj]
def liveK (k : Int) : Prop := k = 5 ∨ k = 6
def hasTo (K : Int → Prop) (parts : List Int) (ds : List Dv) (s : List Int) (j : Nat) (p : Int) : Prop := ∃ (i : Nat) (x : Dv), i < j ∧ ds[i]? = some x ∧ s[i]? = some 2 ∧ K x.kind ∧ parts[x.a.toNat]? = some p
open Classical in
noncomputable def ind (P : Prop) (n : Int) : Int := if P then n else 0
theorem ind_pos {P : Prop} (h : P) (n : Int) : ind P n = n := if_pos h
theorem ind_neg {P : Prop} (h : ¬ P) (n : Int) : ind P n = 0 := if_neg h
theorem ind_congr {P Q : Prop} (h : P ↔ Q) (n : Int) : ind P n = ind Q n := by rw [propext h]
theorem ind_cases (P : Prop) (n : Int) : (P ∧ ind P n = n) ∨ (¬ P ∧ ind P n = 0) := by
 by_cases h : P
 ·exact .inl ⟨h, ind_pos h n⟩
 ·exact .inr ⟨h, ind_neg h n⟩
noncomputable def bitsTo (parts : List Int) (ds : List Dv) (s : List Int) (j : Nat) (p : Int) : Int := ind (hasTo liveK parts ds s j p) 1 + ind (hasTo (· = 4) parts ds s j p) 2
def HasK (K : Int → Prop) (ds : List Dv) (s : List Int) (v : Int) : Prop := ∃ (i : Nat) (x : Dv), ds[i]? = some x ∧ s[i]? = some 2 ∧ K x.kind ∧ Conn ds s x.a v
noncomputable def colV (ds : List Dv) (s : List Int) (v : Int) : Int := ind (HasK liveK ds s v) 1 + ind (HasK (· = 4) ds s v) 2
def IsCols (nn : Nat) (ds : List Dv) (s c : List Int) : Prop := c.length = nn ∧ ∀ v : Nat, v < nn → c[v]? = some (colV ds s v)
def AOk (nn : Nat) (ds : List Dv) : Prop := ∀ x ∈ ds, 0 ≤ x.a ∧ x.a < nn
section
variable {K : Int → Prop} {parts s : List Int} {ds : List Dv} {j nn : Nat} {p : Int} {x : Dv}
theorem hasTo_zero : ¬ hasTo K parts ds s 0 p := by rintro ⟨i, x, hi, _⟩; omega
theorem hasTo_succ (hx : ds[j]? = some x) : hasTo K parts ds s (j + 1) p ↔ hasTo K parts ds s j p ∨ (s[j]? = some 2 ∧ K x.kind ∧ parts[x.a.toNat]? = some p) := by
 constructor
 ·rintro ⟨i, y, hi, hy, h1, h2, h3⟩
  rcases Nat.lt_succ_iff_lt_or_eq.1 hi with hi | rfl
  ·exact .inl ⟨i, y, hi, hy, h1, h2, h3⟩
  ·obtain rfl : y = x := Option.some.inj (hy.symm.trans hx)
   exact .inr ⟨h1, h2, h3⟩
 ·rintro (⟨i, y, hi, hr⟩ | hr)
  ·exact ⟨i, y, by omega, hr⟩
  ·exact ⟨j, x, by omega, hx, hr⟩
theorem bits_zero : bitsTo parts ds s 0 p = 0 := by unfold bitsTo; rw [ind_neg hasTo_zero, ind_neg hasTo_zero]; rfl
theorem bits_same (hx : ds[j]? = some x) (h : ∀ K : Int → Prop, (K = liveK ∨ K = (· = 4)) → ¬ (s[j]? = some 2 ∧ K x.kind ∧ parts[x.a.toNat]? = some p)) : bitsTo parts ds s (j + 1) p = bitsTo parts ds s j p := by
 unfold bitsTo
 rw [ind_congr ((hasTo_succ hx).trans ⟨fun e => e.elim id (fun e => absurd e (h liveK (.inl rfl))), .inl⟩), ind_congr ((hasTo_succ hx).trans ⟨fun e => e.elim id (fun e => absurd e (h (· = 4) (.inr rfl))), .inl⟩)]
theorem bits_range : bitsTo parts ds s j p = 0 ∨ bitsTo parts ds s j p = 1 ∨ bitsTo parts ds s j p = 2 ∨ bitsTo parts ds s j p = 3 := by
 unfold bitsTo
 rcases ind_cases (hasTo liveK parts ds s j p) 1 with ⟨_, e⟩ | ⟨_, e⟩ <;> rcases ind_cases (hasTo (· = 4) parts ds s j p) 2 with ⟨_, f⟩ | ⟨_, f⟩ <;> rw [e, f] <;> simp
theorem bits_earth (hx : ds[j]? = some x) (hs : s[j]? = some 2) (hk : x.kind = 4) (hp : parts[x.a.toNat]? = some p) : (bitsTo parts ds s j p = 0 → bitsTo parts ds s (j + 1) p = 2) ∧ (bitsTo parts ds s j p = 1 → bitsTo parts ds s (j + 1) p = 3) ∧ (bitsTo parts ds s j p = 2 → bitsTo parts ds s (j + 1) p = 2) ∧ (bitsTo parts ds s j p = 3 → bitsTo parts ds s (j + 1) p = 3) := by
 have h4 : hasTo (· = 4) parts ds s (j + 1) p := (hasTo_succ hx).2 (.inr ⟨hs, hk, hp⟩)
 have hl : hasTo liveK parts ds s (j + 1) p ↔ hasTo liveK parts ds s j p := by
  rw [hasTo_succ hx]
  exact ⟨fun h => h.elim id (fun h => by have := h.2.1; unfold liveK at this; omega), .inl⟩
 unfold bitsTo
 rw [ind_pos h4, ind_congr hl]
 rcases ind_cases (hasTo liveK parts ds s j p) 1 with ⟨_, e⟩ | ⟨_, e⟩ <;> rcases ind_cases (hasTo (· = 4) parts ds s j p) 2 with ⟨_, f⟩ | ⟨_, f⟩ <;> rw [e, f] <;> simp
theorem bits_live (hx : ds[j]? = some x) (hs : s[j]? = some 2) (hk : liveK x.kind) (hp : parts[x.a.toNat]? = some p) : (bitsTo parts ds s j p = 0 → bitsTo parts ds s (j + 1) p = 1) ∧ (bitsTo parts ds s j p = 1 → bitsTo parts ds s (j + 1) p = 1) ∧ (bitsTo parts ds s j p = 2 → bitsTo parts ds s (j + 1) p = 3) ∧ (bitsTo parts ds s j p = 3 → bitsTo parts ds s (j + 1) p = 3) := by
 have h4 : hasTo liveK parts ds s (j + 1) p := (hasTo_succ hx).2 (.inr ⟨hs, hk, hp⟩)
 have hl : hasTo (· = 4) parts ds s (j + 1) p ↔ hasTo (· = 4) parts ds s j p := by
  rw [hasTo_succ hx]
  exact ⟨fun h => h.elim id (fun h => by have := h.2.1; unfold liveK at hk; omega), .inl⟩
 unfold bitsTo
 rw [ind_pos h4, ind_congr hl]
 rcases ind_cases (hasTo liveK parts ds s j p) 1 with ⟨_, e⟩ | ⟨_, e⟩ <;> rcases ind_cases (hasTo (· = 4) parts ds s j p) 2 with ⟨_, f⟩ | ⟨_, f⟩ <;> rw [e, f] <;> simp
theorem has_iff (hp : IsParts nn ds s parts) (ha : AOk nn ds) {v : Nat} (hv : v < nn) {q : Int} (hq : parts[v]? = some q) : hasTo K parts ds s ds.length q ↔ HasK K ds s v := by
 constructor
 ·rintro ⟨i, x, _, hx, h1, h2, h3⟩
  have hax := ha x (List.mem_of_getElem? hx)
  obtain ⟨a, hae⟩ := Int.eq_ofNat_of_zero_le hax.1
  refine ⟨i, x, hx, h1, h2, ?_⟩
  rw [hae] at h3 ⊢
  exact (hp.iff (by omega) hv).1 (by rw [hq]; exact h3)
 ·rintro ⟨i, x, hx, h1, h2, h3⟩
  have hax := ha x (List.mem_of_getElem? hx)
  obtain ⟨a, hae⟩ := Int.eq_ofNat_of_zero_le hax.1
  refine ⟨i, x, (List.getElem?_eq_some_iff.1 hx).1, hx, h1, h2, ?_⟩
  rw [hae] at h3 ⊢
  have := (hp.iff (by omega) hv).2 h3
  rw [hq] at this
  exact this
theorem bits_col (hp : IsParts nn ds s parts) (ha : AOk nn ds) {v : Nat} (hv : v < nn) {q : Int} (hq : parts[v]? = some q) : bitsTo parts ds s ds.length q = colV ds s v := by
 unfold bitsTo colV
 rw [ind_congr (has_iff hp ha hv hq), ind_congr (has_iff hp ha hv hq)]
end
end Go.Proofs.YtepicjpdhpojnaaGreatDoor
namespace Go.Proofs.YtepicjpdhpojnaaGreatDoor
open Go.RowKit
structure NetOk (ns : List Nd) (ds : List Dv) : Prop where
 e : EndsOk ns.length ds
 a : AOk ns.length ds
 k : ∀ x ∈ ds, 1 ≤ x.kind ∧ x.kind ≤ 6
 ne : ∀ x ∈ ds, joinsB x.kind = true → x.b ≠ x.a
 nl : ns.length ≤ 32
 dl : ds.length ≤ 64
theorem chkD_ok {k : Int} : ∀ (ds : List Dv) (used : List (List UInt8)), chkD k used ds = 0 → ∀ x ∈ ds, (1 ≤ x.kind ∧ x.kind ≤ 6) ∧ endsB x.kind x.a x.b k = true
 | [], _, _, x, hx => by cases hx
 | y :: r, used, h, x, hx => by
  rw [chkD] at h
  by_cases h0 : dvErr k used y = 0
  ·rw [if_pos h0] at h
   rcases List.mem_cons.1 hx with rfl | hx
   ·unfold dvErr at h0
    by_cases h1 : nameB (toL x.name) = false
    ·rw [if_pos h1] at h0; cases h0
    by_cases h2 : toL x.name ∈ used
    ·rw [if_neg h1, if_pos h2] at h0; cases h0
    by_cases h3 : x.kind < 1 ∨ 6 < x.kind
    ·rw [if_neg h1, if_neg h2, if_pos h3] at h0; cases h0
    by_cases h4 : endsB x.kind x.a x.b k = false
    ·rw [if_neg h1, if_neg h2, if_neg h3, if_pos h4] at h0; cases h0
    exact ⟨by omega, by simpa using h4⟩
   ·exact chkD_ok r _ h x hx
  ·rw [if_neg h0] at h; exact absurd h h0
theorem NetOk.of {ns : List Nd} {ds : List Dv} (h : checkN ns ds = 0) : NetOk ns ds := by
 unfold checkN at h
 by_cases h1 : 32 < ns.length
 ·rw [if_pos h1] at h; cases h
 by_cases h2 : 64 < ds.length
 ·rw [if_neg h1, if_pos h2] at h; cases h
 by_cases h3 : chkN [] ns = 0
 ·rw [if_neg h1, if_neg h2, if_pos h3] at h
  have H := chkD_ok ds _ h
  have E : ∀ x ∈ ds, 0 ≤ x.a ∧ x.a < ns.length ∧ (joinsB x.kind = true → 0 ≤ x.b ∧ x.b < ns.length ∧ x.b ≠ x.a) := fun x hx => by
   have := (H x hx).2
   unfold endsB at this
   split at this
   ·cases this
   ·next e1 =>
    split at this
    ·cases this
    ·next e2 =>
     refine ⟨by omega, by omega, fun hj => ?_⟩
     rw [if_neg (by rw [hj]; simp)] at this
     simp at this
     omega
  exact ⟨fun x hx hj => ⟨⟨(E x hx).1, (E x hx).2.1⟩, ((E x hx).2.2 hj).1, ((E x hx).2.2 hj).2.1⟩, fun x hx => ⟨(E x hx).1, (E x hx).2.1⟩, fun x hx => (H x hx).1, fun x hx hj => ((E x hx).2.2 hj).2.2, by omega, by omega⟩
 ·rw [if_neg h1, if_neg h2, if_neg h3] at h; exact absurd h h3
end Go.Proofs.YtepicjpdhpojnaaGreatDoor
