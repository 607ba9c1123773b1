import Derived.Test.YtdpmfdcackoegaaGreatDoorZ31
import Derived.Test.YtdpmfdcackoegaaGreatDoorZ38
import Derived.Test.YtdpmfdcackoegaaGreatDoorZ39
import Derived.Test.YtdpmfdcackoegaaGreatDoorZ41
import Derived.Test.YtdpmfdcackoegaaGreatDoorZ48
/-
  The statements' maker of masks.
-/
namespace Go.Proofs.YtdpmfdcackoegaaGreatDoor
open Go.RowKit
def MasksPost (w : World) (g nd most : Nat) (e : Ending) (w' : World) : Prop :=
  ∃ (A : Option Addr) (c : Nat) (m : List Int), e = .returned (.slice A nd c) ∧ Hid (DeckAt w' g) ∧ Hid (w.grownBy w' (some g)) ∧ Hid (IntsO w' (w.heap.size + 1) A nd c m) ∧ Hid (∀ p ∈ m, maskB p = true) ∧ Hid (cntN m m.length ≤ most)
theorem cnt_state {s : List Int} (h : ∀ p ∈ s, posB p = true) : ∀ n, cntN s n = 0
  | 0 => rfl
  | n + 1 => by
    rw [cntN_succ, cnt_state h n, if_neg]
    intro e
    have := h 3 (List.mem_of_getElem? e)
    simp [posB] at this
theorem cnt_set (m : List Int) (i : Nat) : ∀ n, cntN (m.set i 3) n ≤ cntN m n + 1 ∧ (n ≤ i → cntN (m.set i 3) n = cntN m n)
  | 0 => ⟨by simp [cntN, unkN], fun _ => rfl⟩
  | n + 1 => by
    obtain ⟨h1, h2⟩ := cnt_set m i n
    rw [cntN_succ, cntN_succ]
    by_cases hn : n = i
    · subst hn
      have := h2 (Nat.le_refl _)
      refine ⟨?_, fun h => by omega⟩
      rw [this]
      split <;> split <;> omega
    · rw [List.getElem?_set_ne (by omega)]
      exact ⟨by omega, fun h => by rw [h2 (by omega)]⟩
def MmR (W : World) (g nd most : Nat) (A : Option Addr) (c gk : Nat) (iv : Value) (wr : World) : Prop :=
  ∃ (i : Nat) (m : List Int), iv = .int .i64 i ∧ i ≤ most ∧ gk = most - i ∧ Hid (IntsO wr (W.heap.size + 1) A nd c m) ∧ Hid (DeckAt wr g) ∧ Hid (W.grownBy wr (some g)) ∧ Hid (∀ p ∈ m, maskB p = true) ∧ Hid (cntN m m.length ≤ i)
set_option maxRecDepth 100000 in
set_option maxHeartbeats 4000000 in
theorem mkmasks_any (g : Nat) (An Ad : Option Addr) (nn cn nd cd most : Nat) (ds : List Dv) (w : World) (hd : DeckAt w g) (hx : SlX w g 5 Ad nd cd (ds.flatMap Dv.cells)) (hnd : nd ≤ 1000) (hmo : most ≤ 1000) :
    Calls Tryz.prog 12 #[.pointer (some ⟨g, 0, none⟩), .agg #[.slice An nn cn, .slice Ad nd cd], .int .i64 (most : Int)] w (MasksPost w g nd most) := by
  have hlt := hd.lt
  have HST := Lib.hid (mkstate_any g An Ad nn cn nd cd ds (w.alloc (.cells #[.slice An nn cn, .slice Ad nd cd] 30)) (hd.alloc _) (hx.alloc _) hnd)
  have HB0 : Hid (w.grownBy (w.alloc (.cells #[.slice An nn cn, .slice Ad nd cd] 30)) (some g)) := grown_of_below ((Below.refl _ _).alloc (Nat.le_refl _) _) _
  have HW : Hid ((w.alloc (.cells #[.slice An nn cn, .slice Ad nd cd] 30)).heap.size = w.heap.size + 1) := by unfold Hid; simp
  clear hd hx
  go_enter Tryz.func12, Tryz.ntmps12
  go_wp2_with fail
  generalize World.alloc _ _ = W at *
  refine HST.out.mono ?_
  rintro e w1 ⟨A, c, s, rfl, hd1, hg1, hO1, hp1⟩
  have HM1 : Hid (∀ p ∈ s, maskB p = true) := fun p hp => by have := hp1.out p hp; simp [posB, maskB] at *; omega
  have HC1 : Hid (cntN s s.length ≤ 0) := by unfold Hid; rw [cnt_state hp1.out]; exact Nat.le_refl _
  have hWz := HW.out
  have hgW : g < W.heap.size := by omega
  clear HST hp1 hWz
  go_wp2_with fail
  go_loopg [8] most (MmR W g nd most A c)
  case atStart => exact ⟨0, s, rfl, Nat.zero_le _, rfl, hO1, hd1, hg1, HM1, HC1⟩
  case round =>
    clear hO1 hd1 hg1 HM1 HC1
    obtain ⟨i, m, rfl, hi, rfl, hO, hD, hG, hM, hC⟩ := hrel
    by_cases hgo : i < most ∧ 0 < nd
    · obtain ⟨hlt2, hnd0⟩ := hgo
      go_wp2_with fail
      refine (one_any g 2 wr hD.out (by decide)).mono ?_
      rintro e w3 ⟨r, rfl, hd3, hg3, hs3⟩
      have HO3 := Lib.hid (hO.out.kept hg3.out (ne_row fun b e => by have := (hO.out.lt b e).1; omega))
      have HG3 := Lib.hid (grown_trans hG.out hg3.out)
      clear hD hG hg3 hs3 hO
      rcases r with _ | _
      · have HC2 : Hid (cntN m m.length ≤ i + 1) := by have := hC.out; unfold Hid; omega
        go_wp2_with fail
        go_roundg (most - (i + 1))
        case rel => exact ⟨i + 1, m, by go_num, by omega, rfl, HO3, hd3, HG3, hM, HC2⟩
        case measure => omega
      · go_wp2_with fail
        refine (next_any g (nd : Int) w3 hd3.out (by omega)).mono ?_
        rintro e w4 ⟨v, rfl, hv0, _, hv1, hd4, hg4, hs4⟩
        have hvn := hv1.out (by omega)
        obtain ⟨t, rfl⟩ := Int.eq_ofNat_of_zero_le hv0
        have htn : t < nd := by omega
        have HO4 := Lib.hid (HO3.out.kept hg4.out (ne_row fun b e => by have := (HO3.out.lt b e).1; omega))
        have HG4 := Lib.hid (grown_trans HG3.out hg4.out)
        clear hd3 hg4 hs4 HO3 HG3 hv1 hvn hv0
        obtain ⟨q, y, rfl, hq1, hq2, hy, hcy, hfy, hst⟩ := IntsO.at HO4.out htn
        have HSW := Lib.hid (hst 3)
        have HD5 := Lib.hid (hd4.out.setCell (p := ⟨q, t, none⟩) (by simp; omega) (.int .i64 3))
        have HG5 := Lib.hid (grown_set HG4.out (p := ⟨q, t, none⟩) (by simp; omega) (.int .i64 3))
        have HM5 : Hid (∀ p ∈ m.set t 3, maskB p = true) := fun p hp => by
          rcases List.mem_or_eq_of_mem_set hp with h1 | h1
          · exact hM.out p h1
          · rw [h1]; rfl
        have HC5 : Hid (cntN (m.set t 3) (m.set t 3).length ≤ i + 1) := by
          have h1 := (cnt_set m t m.length).1
          have h2 := hC.out
          unfold Hid; rw [List.length_set]; omega
        clear hst hd4 HO4 HG4 hy
        go_wp2_with fail
        go_roundg (most - (i + 1))
        case rel => exact ⟨i + 1, _, by go_num, by omega, rfl, HSW, HD5, HG5, HM5, HC5⟩
        case measure => omega
    · have HEND : Hid (MasksPost w g nd most (.returned (.slice A nd c)) wr) := ⟨A, c, m, rfl, hD, grown_trans HB0.out hG.out, hO.out.mono (by have := HW.out; omega), hM, (by have := hC.out; unfold Hid; omega)⟩
      by_cases hl : i < most
      · obtain rfl : nd = 0 := by omega
        go_wp2_with fail
        go_ret
        exact HEND.out
      · have ql : decide ((i : Int) < (most : Int)) = false := by simp; omega
        have ql2 : decide (i < most) = false := by simp; omega
        go_wp2_with fail
        go_ret
        exact HEND.out
end Go.Proofs.YtdpmfdcackoegaaGreatDoor
/-
  The reference's All: all agreeing states.
-/
namespace Go.Proofs.YtdpmfdcackoegaaGreatDoor
open Go.RowKit
theorem RowsO.appL {w w' : World} {base n c : Nat} {A : Option Addr} {ls : List (List Int)} {vs : List Value} (h : RowsO w base A n c ls vs) {A1 An : Option Addr} {c1 cn ln : Nat} {l : List Int} (hln : l.length = ln) (hown : w'.ownsRow base 22 1 (.slice A1 (n + 1) c1) (n + 1) (vs ++ [.slice An ln cn])) (hg : w.grownBy w' (Value.slice A n c).ownBlock)
    (hat : (Value.slice A1 (n + 1) c1).ownBlock = (Value.slice A n c).ownBlock ∨ (Value.slice A1 (n + 1) c1).ownBlock = some w.heap.size) (hl : Sl w w.heap.size 1 An ln cn (intsV l)) (hlt : ∀ b off, An = some ⟨b, off, none⟩ → b < w.heap.size ∧ some b ≠ (Value.slice A n c).ownBlock) : RowsO w' base A1 (n + 1) c1 (ls ++ [l]) (vs ++ [.slice An ln cn]) := by
  subst hln
  exact h.app hown hg hat hl hlt
/-- What of one row is laid. -/
def partL (x : Int) (o : List Int) (p : Nat) : List (List Int) := (if 2 ≤ p ∧ x ≠ 2 then [o ++ [1]] else []) ++ (if 3 ≤ p ∧ x ≠ 1 then [o ++ [2]] else [])
theorem partL_one (x : Int) (o : List Int) : partL x o 1 = [] := rfl
theorem partL_done {x : Int} (o : List Int) (h : x = 1 ∨ x = 2 ∨ x = 3) : partL x o 3 = nextL (some x) o := by
  rcases h with rfl | rfl | rfl <;> rfl
theorem partL_len (x : Int) (o : List Int) (p : Nat) : (partL x o p).length ≤ 2 := by
  unfold partL; split <;> split <;> simp
theorem next_len (x : Option Int) (ls : List (List Int)) : (ls.flatMap (nextL x)).length ≤ 2 * ls.length := by
  induction ls with
  | nil => simp
  | cons o ls ih =>
    rw [List.flatMap_cons, List.length_append, List.length_cons]
    have : (nextL x o).length ≤ 2 := by unfold nextL; split <;> simp
    omega
theorem cErr_zero {m : List Int} (h : cErr m = 0) : (∀ x ∈ m, maskB x = true) ∧ cntN m m.length ≤ 8 := by
  unfold cErr at h
  split at h
  · next hv =>
    split at h
    · omega
    · exact ⟨List.all_eq_true.1 hv, by omega⟩
  · omega
def RaR1 (w : World) (m : List Int) (gk : Nat) (ov iv : Value) (wr : World) : Prop := ∃ (i no co : Nat) (Ao : Option Addr), iv = .int .i64 i ∧ ov = .slice Ao no co ∧ i ≤ m.length ∧ gk = m.length - i ∧ Hid (RowsAt wr wr.heap.size Ao no co (allN m i)) ∧ Hid (Below w.heap.size w wr)
def RaR2 (W : World) (m : List Int) (i no gk : Nat) (ov iv : Value) (wr : World) : Prop := ∃ (k nx cx : Nat) (Ax : Option Addr) (vs : List Value), iv = .int .i64 k ∧ ov = .slice Ax nx cx ∧ k ≤ no ∧ gk = no - k ∧ Hid (RowsO wr W.heap.size Ax nx cx (((allN m i).take k).flatMap (nextL m[i]?)) vs) ∧ Hid (Below W.heap.size W wr)
def RaR3 (W : World) (m : List Int) (i k : Nat) (x : Int) (o : List Int) (gk : Nat) (ov pv : Value) (wr : World) : Prop := ∃ (p nx cx : Nat) (Ax : Option Addr) (vs : List Value), pv = .int .i64 p ∧ ov = .slice Ax nx cx ∧ 1 ≤ p ∧ p ≤ 3 ∧ gk = 3 - p ∧ Hid (RowsO wr W.heap.size Ax nx cx (((allN m i).take k).flatMap (nextL m[i]?) ++ partL x o p) vs) ∧ Hid (Below W.heap.size W wr)
set_option maxRecDepth 100000 in
set_option maxHeartbeats 8000000 in
theorem rall_any (A : Option Addr) (c B : Nat) (m : List Int) (w : World) (hs : Sl w B 1 A m.length c (intsV m)) (hB : B ≤ w.heap.size) (hn : m.length ≤ 1000) : Calls Tryz.prog 15 #[.slice A m.length c] w (MAllPost w m) := by
  have HC := Lib.hid (rcount_any A m.length c B m w hs hB (by omega))
  have HS := Lib.hid hs
  clear hs
  by_cases he : cErr m = 0; rotate_left
  · have q : (cErr m != 0) = true := by simpa using he
    have HE := Lib.hid he
    clear he
    go_enter Tryz.func15, Tryz.ntmps15
    go_wp2_with fail
    refine HC.out.mono ?_
    rintro e w1 ⟨rfl, hb1⟩
    go_wp2_with fail
    go_ret2
    exact ⟨.inl ⟨HE.out, rfl⟩, hb1⟩
  have HMB := Lib.hid (cErr_zero he).1
  have HU8 := Lib.hid (cErr_zero he).2
  have HE := Lib.hid he
  rw [he] at HC
  clear he
  generalize cntV m = cv at *
  go_enter Tryz.func15, Tryz.ntmps15
  go_wp2_with fail
  refine HC.out.mono ?_
  rintro e w1 ⟨rfl, hb1⟩
  go_wp2_with fail
  have HR0 : Hid (RowsAt (w1.alloc (.cells #[.slice none 0 0] 22)) (w1.alloc (.cells #[.slice none 0 0] 22)).heap.size (some ⟨w1.heap.size, 0, none⟩) 1 1 (allN m 0)) :=
    ⟨[.slice none 0 0], (Sl.newest (n := 1) (size := 1) (w := w1) rfl (by rfl) (by decide)).more (by simp), rfl, fun i l hl => by
      cases i with
      | zero => simp [allN] at hl; subst hl; exact ⟨none, 0, rfl, Sl.nil _ _ _⟩
      | succ i => simp [allN] at hl⟩
  have HB0 := Lib.hid (hb1.alloc hb1.size (.cells #[.slice none 0 0] 22))
  clear HC hb1
  generalize World.alloc _ _ = w2 at *
  go_loopg [6, 7] m.length (RaR1 w m)
  case atStart => exact ⟨0, 1, 1, _, rfl, rfl, Nat.zero_le _, rfl, HR0, HB0⟩
  case round =>
    clear HR0 HB0
    obtain ⟨i, no, co, Ao, rfl, rfl, hi, rfl, hra, hbl⟩ := hrel
    by_cases hlt : i < m.length
    · have hno : no ≤ 256 := by
        have h1 := hra.out.len
        rw [allN_len] at h1
        have := Nat.pow_le_pow_right (n := 2) (by decide) (Nat.le_trans (cntN_mono m (Nat.le_of_lt hlt)) HU8.out)
        omega
      have hzw := hbl.out.size
      go_wp2_with fail
      generalize wr = W at *
      go_loopg [8, 9] no (RaR2 W m i no)
      case atStart => exact ⟨0, 0, 0, none, [], rfl, rfl, Nat.zero_le _, rfl, RowsO.nil _ _, Below.refl _ _⟩
      case round =>
        obtain ⟨k, nx, cx, Ax, vs, rfl, rfl, hk, rfl, hro, hbw⟩ := hrel
        by_cases hkt : k < no
        · obtain ⟨rb, ro, o, Ak, ck, rfl, hrb, ho, hrc, hrs⟩ := hra.out.at hkt
          have HO := Lib.hid ho
          have HOL : Hid (o.length = i) := ((mem_allN m i o).1 (List.mem_of_getElem? ho)).1
          have hol : o.length ≤ 1000 := by have := HOL.out; omega
          have HRS := Lib.hid hrs
          obtain ⟨x, hx⟩ : ∃ x, m[i]? = some x := ⟨_, List.getElem?_eq_getElem hlt⟩
          have HX := Lib.hid hx
          have hx3 : x = 1 ∨ x = 2 ∨ x = 3 := by
            have := HMB.out x (List.mem_of_getElem? hx)
            simp [maskB] at this; omega
          have HX3 := Lib.hid hx3
          have HSTEP : Hid (((allN m i).take (k + 1)).flatMap (nextL m[i]?) = ((allN m i).take k).flatMap (nextL m[i]?) ++ partL x o 3) := by
            unfold Hid
            rw [take_snoc ho, List.flatMap_append, partL_done o hx3, hx]; simp
          have HTL : Hid ((((allN m i).take k).flatMap (nextL m[i]?)).length ≤ 512) := by
            have h1 := next_len m[i]? ((allN m i).take k)
            have h2 : ((allN m i).take k).length ≤ k := List.length_take_le _ _
            unfold Hid; omega
          have HRC := Lib.hid hrc
          clear ho hrs hx hx3 hrc
          go_wp2_with fail
          go_loopg [8, 10] 2 (RaR3 W m i k x o)
          case atStart => exact ⟨1, nx, cx, Ax, vs, rfl, rfl, Nat.le_refl _, by omega, rfl, (by unfold Hid; rw [partL_one, List.append_nil]; exact hro.out), hbw⟩
          case round =>
            clear hro hbw
            obtain ⟨p, nx, cx, Ax, vs, rfl, rfl, hp1, hp3, rfl, hro, hbw⟩ := hrel
            have hnx : nx ≤ 600 := by
              have h1 := hro.out.2.1
              rw [List.length_append] at h1
              have := partL_len x o p
              have := HTL.out
              omega
            by_cases hpt : p = 3
            · subst hpt
              have HR5 : Hid (RowsO wr W.heap.size Ax nx cx (((allN m i).take (k + 1)).flatMap (nextL m[i]?)) vs) := by unfold Hid; rw [HSTEP.out]; exact hro.out
              go_wp2_with fail
              go_roundg (no - (k + 1))
              case rel => exact ⟨k + 1, nx, cx, Ax, vs, by go_num, rfl, by omega, rfl, HR5, hbw⟩
              case measure => omega
            · obtain ⟨mb, mo, x', rfl, hmb, hx', hmc⟩ := ((HS.out.below hbl.out hB).below hbw.out (by omega)).at1 hlt
              obtain rfl : x' = x := by rw [HX.out] at hx'; injection hx' with h; exact h.symm
              have hp2 : p ≤ 2 := by omega
              have q2 : decide ((p : Int) ≤ 2) = true := by simp; omega
              clear hx' hpt
              by_cases hyes : (p = 1 ∧ x' ≠ 2) ∨ (p = 2 ∧ x' ≠ 1)
              · have qa : (bits BinOp.and IntKind.i64 x' (p : Int) != 0) = true := by
                  have := HX3.out
                  rcases hyes with ⟨rfl, h⟩ | ⟨rfl, h⟩ <;> rcases this with rfl | rfl | rfl <;> first | rfl | exact absurd rfl h
                have HPT : Hid (((allN m i).take k).flatMap (nextL m[i]?) ++ partL x' o (p + 1) = (((allN m i).take k).flatMap (nextL m[i]?) ++ partL x' o p) ++ [o ++ [(p : Int)]]) := by
                  unfold Hid
                  rw [List.append_assoc]
                  congr 1
                  have := HX3.out
                  rcases hyes with ⟨rfl, h⟩ | ⟨rfl, h⟩ <;> rcases this with rfl | rfl | rfl <;> first | rfl | exact absurd rfl h
                have hrc : wr.cell? ⟨rb, ro + k, none⟩ = some (.slice Ak o.length ck) := (hbw.out.cell (p := ⟨rb, ro + k, none⟩) hrb).trans HRC.out
                have HRS2 := Lib.hid ((HRS.out.below hbw.out (Nat.le_refl _)).more hbw.out.size)
                clear hyes
                have hwz := hbw.out.size
                go_wp2_with (at_builtin; go_must (first
                  | (refine wpList_app rfl _ (.tmp 47) rfl el_int (by rfl) (World.ownsRow_nil _ wr.heap.size _ _) (by rfl) HRS2.out (ints_one o) (by omega) (by omega) (Nat.le_refl _) ?_; intro A1 co1 w4 hown4 hgr4 hat4; simp only [Nat.zero_add, List.nil_append] at hown4 hgr4 ⊢; have HO4 : Hid (IntsO w4 wr.heap.size A1 o.length co1 o) := hown4; have HB4 : Hid (Below wr.heap.size wr w4) := ⟨hgr4.os, hgr4.tape, hgr4.output, hgr4.size, fun i hi => hgr4.block i hi (by simp [Value.ownBlock])⟩; clear hown4 hgr4 hat4)
                  | (refine wpList_app rfl (.tmp 48) (.tmp 50) rfl el_int (by rfl) (HO4.out.alloc _) (by rfl) (Sl.newest (n := 1) (by simp) (by rfl) (by decide)) (by simp [Value.oneCell']) (by omega) (by omega) (by have := HB4.out.size; simp; omega) ?_; intro A2 co2 w5 hown5 hgr5 hat5; have HO5 := Lib.hid hown5; have HB5 : Hid (Below wr.heap.size wr w5) := (HB4.out.alloc HB4.out.size _).trans ⟨hgr5.os, hgr5.tape, hgr5.output, hgr5.size, fun t ht => hgr5.block t (by have := HB4.out.size; simp; omega) (fun e => by have := (HO4.out.lt t e.symm).1; omega)⟩; clear hown5 hgr5 hat5)
                  | (refine wpList_app rfl (.tmp 43) (.tmp 52) rfl el_rows (by rfl) ((hro.out.kept (HB5.out.alloc HB5.out.size (.cells #[.slice A2 (o.length + 1) co2] 22)) (Nat.le_refl _)).1) (by rfl) (Sl.newest (n := 1) (by simp) (by rfl) (by decide)) (by simp [Value.oneCell']) (by omega) (by omega) (by have := HB5.out.size; simp; omega) ?_; intro A3 co3 w6 hown6 hgr6 hat6; have HO6 := Lib.hid hown6; have HG6 := Lib.hid hgr6; have HAT6 := Lib.hid hat6; clear hown6 hgr6 hat6)))
                have HB6 := Lib.hid (HB5.out.alloc HB5.out.size (.cells #[.slice A2 (o.length + 1) co2] 22))
                have HR6 : Hid (RowsO w6 W.heap.size A3 (nx + 1) co3 (((allN m i).take k).flatMap (nextL m[i]?) ++ partL x' o (p + 1)) (vs ++ [.slice A2 (o.length + 1) co2])) := by
                  unfold Hid
                  rw [HPT.out]
                  refine (hro.out.kept HB6.out (Nat.le_refl _)).appL (by simp) HO6.out HG6.out HAT6.out ?_ ?_
                  · have h1 := (Sl.of_own HO5.out)
                    have h2 : Sl (w5.alloc (.cells #[.slice A2 (o.length + 1) co2] 22)) w5.heap.size 1 A2 (o.length + 1) co2 (intsV (o ++ [(p : Int)])) := by rw [intsV_append]; exact h1.alloc (Nat.le_refl _) _
                    exact h2.more (by simp)
                  · intro b off e
                    have h1 := HO5.out.lt b (by rw [e]; rfl)
                    refine ⟨by simp; omega, fun e2 => ?_⟩
                    have := (hro.out.lt b e2.symm).2
                    omega
                have HB7 : Hid (Below W.heap.size W w6) := by
                  have h1 := hbw.out.trans (HB6.out.mono hwz)
                  refine h1.trans ⟨HG6.out.os, HG6.out.tape, HG6.out.output, HG6.out.size, fun t ht => HG6.out.block t (by have := h1.size; omega) (fun e => by have := (hro.out.lt t e.symm).1; omega)⟩
                go_roundg (3 - (p + 1))
                case rel => exact ⟨p + 1, nx + 1, co3, A3, _, by go_num, rfl, by omega, by omega, rfl, HR6, HB7⟩
                case measure => omega
              · have qa : (bits BinOp.and IntKind.i64 x' (p : Int) != 0) = false := by
                  have := HX3.out
                  have : (p = 1 ∧ x' = 2) ∨ (p = 2 ∧ x' = 1) := by omega
                  rcases this with ⟨rfl, rfl⟩ | ⟨rfl, rfl⟩ <;> rfl
                have HPT : Hid (partL x' o (p + 1) = partL x' o p) := by
                  have : (p = 1 ∧ x' = 2) ∨ (p = 2 ∧ x' = 1) := by omega
                  rcases this with ⟨rfl, rfl⟩ | ⟨rfl, rfl⟩ <;> rfl
                clear hyes
                go_wp2_with fail
                go_roundg (3 - (p + 1))
                case rel => exact ⟨p + 1, nx, cx, Ax, vs, by go_num, rfl, by omega, by omega, rfl, (by unfold Hid; rw [HPT.out]; exact hro.out), hbw⟩
                case measure => omega
        · obtain rfl : k = no := by omega
          have hkk : decide (k < k) = false := by simp
          have HR5 : Hid (RowsAt wr wr.heap.size Ax nx cx (allN m (i + 1))) := by
            have := hro.out.read
            rw [List.take_of_length_le (by rw [hra.out.len]; exact Nat.le_refl _)] at this
            exact this
          go_wp2_with fail
          go_roundg (m.length - (i + 1))
          case rel => exact ⟨i + 1, nx, cx, Ax, by go_num, rfl, by omega, rfl, HR5, hbl.out.trans (hbw.out.mono hzw)⟩
          case measure => omega
    · obtain rfl : i = m.length := by omega
      have hii : decide (m.length < m.length) = false := by simp
      go_wp2_with fail
      go_ret2
      exact ⟨.inr ⟨HE.out, Ao, no, co, rfl, hra⟩, hbl⟩
end Go.Proofs.YtdpmfdcackoegaaGreatDoor
/-
  HazardFaults: closing a device can close a source onto an earth exactly if it does in some agreeing state.
-/
namespace Go.Proofs.YtdpmfdcackoegaaGreatDoor
open Go.RowKit
def FaIn (C : List Int) (v : Nat) (out : List Int) : Prop := out.length ≤ v ∧ ∀ x : Int, x ∈ out ↔ ∃ k : Nat, k < v ∧ x = k ∧ C.getD k 0 = 3
theorem FaIn.start (C : List Int) : FaIn C 0 [] := ⟨Nat.le_refl _, fun x => ⟨(fun h => by cases h), (fun ⟨k, hk, _⟩ => by omega)⟩⟩
theorem FaIn.pass {C out : List Int} {v : Nat} (h : FaIn C v out) (hn : C.getD v 0 ≠ 3) : FaIn C (v + 1) out := by
  refine ⟨by have := h.1; omega, fun x => (h.2 x).trans ⟨?_, ?_⟩⟩
  · rintro ⟨k, hk, r⟩; exact ⟨k, by omega, r⟩
  · rintro ⟨k, hk, e, hc⟩
    rcases Nat.lt_succ_iff_lt_or_eq.1 hk with hk | rfl
    · exact ⟨k, hk, e, hc⟩
    · exact absurd hc hn
theorem FaIn.put {C out : List Int} {v : Nat} (h : FaIn C v out) (hc : C.getD v 0 = 3) : FaIn C (v + 1) (out ++ [(v : Int)]) := by
  refine ⟨by have := h.1; simp; omega, fun x => ?_⟩
  rw [List.mem_append, h.2 x, List.mem_singleton]
  constructor
  · rintro (⟨k, hk, r⟩ | rfl)
    · exact ⟨k, by omega, r⟩
    · exact ⟨v, by omega, rfl, hc⟩
  · rintro ⟨k, hk, e, r⟩
    rcases Nat.lt_succ_iff_lt_or_eq.1 hk with hk | rfl
    · exact .inl ⟨k, hk, e, r⟩
    · exact .inr e
/-- The nodes that are live and earthed. -/
def FaL (nn : Nat) (ds : List Dv) (s out : List Int) : Prop := ∀ v : Int, v ∈ out ↔ ∃ k : Nat, k < nn ∧ v = k ∧ colV ds s k = 3
def FaR (w2 : World) (C : List Int) (nn gk : Nat) (ov iv : Value) (wr : World) : Prop := ∃ (v m co : Nat) (Ao : Option Addr) (out : List Int), iv = .int .i64 v ∧ ov = .slice Ao m co ∧ v ≤ nn ∧ gk = nn - v ∧ Hid (IntsO wr w2.heap.size Ao m co out) ∧ Hid (Below w2.heap.size w2 wr) ∧ Hid (FaIn C v out)
set_option maxRecDepth 100000 in
set_option maxHeartbeats 4000000 in
theorem rfaults_any (An Ad As : Option Addr) (nn cn nd cd n c : Nat) (ns : List Nd) (ds : List Dv) (s : List Int) (w : World) (hn : Sl w w.heap.size 3 An nn cn (ns.flatMap Nd.cells)) (hd : Sl w w.heap.size 5 Ad nd cd (ds.flatMap Dv.cells)) (hs : Sl w w.heap.size 1 As n c (intsV s))
    (hsn : ∀ x ∈ ns, x.name.size ≤ 9223372036854775807) (hsd : ∀ x ∈ ds, x.name.size ≤ 9223372036854775807) (hnn : nn ≤ 10000) (hse : stateErr ns ds s = 0) (hends : nd ≤ n ∧ EndsOk nn ds ∧ ∀ x ∈ ds, joinsB x.kind = true → x.b ≠ x.a) (hA : AOk nn ds ∧ ∀ x ∈ ds, 1 ≤ x.kind ∧ x.kind ≤ 6) :
    Calls Tryz.prog 16 #[.agg #[.slice An nn cn, .slice Ad nd cd], .slice As n c] w fun e w' => ∃ Ao m co out, e = .returned (.tuple #[.slice Ao m co, .int .i64 0]) ∧ Hid (IntsO w' w.heap.size Ao m co out) ∧ Hid (FaL nn ds s out) ∧ Hid (Below w.heap.size w w') := by
  have HCK := Lib.hid (rcols_any An Ad As nn cn nd cd n c w.heap.size w.heap.size w.heap.size ns ds s (w.alloc (.cells #[.slice An nn cn, .slice Ad nd cd] 30)) (hn.alloc (Nat.le_refl _) _) (hd.alloc (Nat.le_refl _) _) (hs.alloc (Nat.le_refl _) _) (by simp) (by simp) (by simp) hsn hsd hnn (fun _ => hends) (fun _ => hA))
  rw [hse] at HCK
  clear hn hd hs hsn hsd hse hends hA
  go_enter Tryz.func16, Tryz.ntmps16
  go_upto_region 1 with (fail)
  have HB := Lib.hid (Blk.new w 30 #[.slice An nn cn, .slice Ad nd cd])
  have HW : Hid (Below w.heap.size w (w.alloc (.cells #[.slice An nn cn, .slice Ad nd cd] 30))) := (Below.refl _ _).alloc (Nat.le_refl _) _
  generalize World.alloc _ _ = w1 at *
  obtain ⟨nb, hnb⟩ : ∃ nb, nb = w.heap.size := ⟨_, rfl⟩
  rw [← hnb] at HB ⊢
  clear hnb
  have k0 : w1.cell? ⟨nb, 0, none⟩ = some (.slice An nn cn) := HB.out.cell 0
  have k1 : w1.cell? ⟨nb, 1, none⟩ = some (.slice Ad nd cd) := HB.out.cell 1
  go_wp2_with fail
  clear k0 k1
  refine HCK.out.mono ?_
  rintro e w2 ⟨hb2, h | ⟨_, Ac, C, rfl, hOc, hIC⟩⟩
  · exact absurd rfl h.1
  have HBW := Lib.hid (HW.out.trans (hb2.out.mono HW.out.size))
  have HSC := Lib.hid hOc.out.sl
  clear hOc HCK HB HW hb2
  go_wp2_with fail
  go_loopg [8, 9] nn (FaR w2 C nn)
  case atStart => exact ⟨0, 0, 0, none, [], rfl, rfl, Nat.zero_le _, rfl, World.ownsRow_nil _ _ _ _, Below.refl _ _, FaIn.start _⟩
  case round =>
    obtain ⟨v, m, co, Ao, out, rfl, rfl, hv, rfl, hO, hbl, hsp⟩ := hrel
    by_cases hlt : v < nn
    · obtain ⟨b, off, cv, rfl, hb, hcv, hc⟩ := (HSC.out.below hbl.out (Nat.le_refl _)).at1 hlt
      have HCV := Lib.hid (getD_of hcv)
      have hml : m ≤ nn := by have := hsp.out.1; rw [hO.out.len] at this; omega
      clear hcv
      by_cases h1 : cv = 3; rotate_left
      · have q : (cv == 3) = false := by simpa using h1
        have HS1 := Lib.hid (hsp.out.pass (by rw [HCV.out]; exact h1))
        clear h1
        go_wp2_with fail
        go_roundg (nn - (v + 1))
        case rel => exact ⟨v + 1, m, co, Ao, out, by go_num, rfl, by omega, rfl, hO, hbl, HS1⟩
        case measure => omega
      · have q : (cv == 3) = true := by simpa using h1
        have HS1 := Lib.hid (hsp.out.put (by rw [HCV.out]; exact h1))
        have hzz := hbl.out.size
        clear h1
        go_wp2_with (at_builtin; go_must (refine wpList_app rfl (.tmp 27) (.tmp 29) rfl el_int (by rfl) (hO.out.alloc _) (by rfl) (Sl.newest (n := 1) (by simp) (by rfl) (by decide)) (by simp [Value.oneCell']) (by omega) (by omega) (by simp; omega) ?_; intro A' cap' w3 hown3 hgr3 hat3; have HO3 := Lib.hid hown3; have HG3 := Lib.hid hgr3; clear hown3 hgr3 hat3))
        go_roundg (nn - (v + 1))
        case rel =>
          refine ⟨v + 1, m + 1, cap', A', out ++ [(v : Int)], by go_num, rfl, by omega, rfl, ?_, ?_, HS1⟩
          · have := HO3.out
            unfold Hid IntsO
            rw [intsV_append]
            exact this
          · refine (hbl.out.alloc hbl.out.size _).trans ⟨HG3.out.os, HG3.out.tape, HG3.out.output, HG3.out.size, fun i hi => HG3.out.block i (by simp; omega) (fun e => ?_)⟩
            have := (hO.out.lt i e.symm).1
            omega
        case measure => omega
    · obtain rfl : v = nn := by omega
      have hii : decide (v < v) = false := by simp
      go_wp2_with fail
      go_ret2
      refine ⟨Ao, m, co, out, rfl, hO.out.mono HBW.out.size, fun x => (hsp.out.2 x).trans ?_, HBW.out.trans (hbl.out.mono HBW.out.size)⟩
      constructor
      · rintro ⟨k, hk, e, hc⟩; exact ⟨k, hk, e, by rw [getD_of (hIC.out.2 k hk)] at hc; exact hc⟩
      · rintro ⟨k, hk, e, hc⟩; exact ⟨k, hk, e, by rw [getD_of (hIC.out.2 k hk)]; exact hc⟩
section
variable {nn : Nat} {ns : List Nd} {ds : List Dv} {s s' m : List Int} {x : Dv} {i : Nat}
theorem conn_mono (h : ∀ k : Nat, s[k]? = some 2 → s'[k]? = some 2) {u v : Int} (hc : Conn ds s u v) : Conn ds s' u v := by
  unfold Conn at *
  induction hc with
  | base h1 => exact .base h1
  | step _ h2 h3 h4 h5 ih =>
    refine .step ih h2 h3 ?_ h5
    unfold shutB at *
    simp only [beq_iff_eq] at *
    rename_i k _ _
    have h6 : s[k]? = some 2 := by
      rcases hq : s[k]? with _ | y
      · rw [List.getD_eq_getElem?_getD, hq] at h4; cases h4
      · rw [List.getD_eq_getElem?_getD, hq] at h4; simp at h4; rw [h4]
    rw [List.getD_eq_getElem?_getD, h k h6]; rfl
theorem hasK_mono {K : Int → Prop} (h : ∀ k : Nat, s[k]? = some 2 → s'[k]? = some 2) {v : Int} (hk : HasK K ds s v) : HasK K ds s' v := by
  obtain ⟨k, y, h1, h2, h3, h4⟩ := hk
  exact ⟨k, y, h1, h k h2, h3, conn_mono h h4⟩
theorem col3 {v : Int} : colV ds s v = 3 ↔ HasK liveK ds s v ∧ HasK (· = 4) ds s v := by
  unfold colV
  rcases ind_cases (HasK liveK ds s v) 1 with ⟨h, e⟩ | ⟨h, e⟩ <;> rcases ind_cases (HasK (· = 4) ds s v) 2 with ⟨h2, e2⟩ | ⟨h2, e2⟩ <;> rw [e, e2] <;> simp [h, h2]
theorem col3_mono (h : ∀ k : Nat, s[k]? = some 2 → s'[k]? = some 2) {v : Int} (hc : colV ds s v = 3) : colV ds s' v = 3 := by
  rw [col3] at *
  exact ⟨hasK_mono h hc.1, hasK_mono h hc.2⟩
/-- The device closed closes a source onto an earth. -/
def FB (ds : List Dv) (x : Dv) (i : Nat) (s : List Int) : Prop := colV ds (withL s i 2) x.a = 3 ∨ joinsB x.kind = true ∧ colV ds (withL s i 2) x.b = 3
theorem faultB_iff (he : EndsOk nn ds) (ha : AOk nn ds) (hx : x ∈ ds) : faultB x.kind x.a x.b (colsOf nn ds s) = true ↔ colV ds s x.a = 3 ∨ joinsB x.kind = true ∧ colV ds s x.b = 3 := by
  have hC := colsOf_are nn ds s
  have h1 := cols_get hC (ha x hx).1 (ha x hx).2
  unfold faultB
  rw [Bool.or_eq_true, Bool.and_eq_true, beq_iff_eq, beq_iff_eq, h1]
  constructor
  · rintro (h | ⟨h, h2⟩)
    · exact .inl h
    · exact .inr ⟨h, by rw [cols_get hC (he x hx h).2.1 (he x hx h).2.2] at h2; exact h2⟩
  · rintro (h | ⟨h, h2⟩)
    · exact .inl h
    · exact .inr ⟨h, by rw [cols_get hC (he x hx h).2.1 (he x hx h).2.2]; exact h2⟩
theorem duty4 (he : EndsOk nn ds) (ha : AOk nn ds) (hx : x ∈ ds) : dutyAt nn ns ds s i x = 4 ↔ FB ds x i s := by
  unfold dutyAt dutyV FB
  rw [← faultB_iff he ha hx]
  constructor
  · intro h
    split at h
    · assumption
    · split at h
      · cases h
      · split at h
        · cases h
        · split at h <;> cases h
  · intro h; rw [if_pos h]
theorem withL_is (hi : i < s.length) (p : Int) : withL s i p = s.set i p := by
  unfold withL
  rw [if_pos ⟨by omega, by omega⟩]; simp
theorem withL_two (hi : i < s.length) (p q : Int) : withL (withL s i p) i q = withL s i q := by
  rw [withL_is hi, withL_is (by rw [List.length_set]; exact hi), withL_is hi, List.set_set]
theorem fault_flag (he : EndsOk nn ds) (ha : AOk nn ds) (hx : x ∈ ds) (hi : i < s.length) : hasB (hzAt nn ns ds (s.set i 1) i 2 0 [] [] x) 1 = true ↔ FB ds x i s := by
  have h1 : (s.set i 1).getD i 0 = 1 := by rw [List.getD_eq_getElem?_getD, List.getElem?_set_self hi]; rfl
  rw [hasB_iff]
  unfold hzAt
  rw [if_neg (by rw [h1]; decide), hzL_mem, ← withL_is hi]
  simp only [true_and, decide_true, Bool.true_and, decide_eq_true_iff]
  rw [duty4 he ha hx]
  unfold FB
  rw [withL_two hi]
  simp
theorem fill_most (hs : s ∈ allOf m) (hi : i < m.length) (h : FB ds x i s) : FB ds x i (fillL m 2) := by
  obtain ⟨h1, h2⟩ := (mem_allN m m.length s).1 hs
  have hm : ∀ k : Nat, (withL s i 2)[k]? = some 2 → (withL (fillL m 2) i 2)[k]? = some 2 := fun k hk => by
    rw [withL_is (by omega)] at hk
    rw [withL_is (by rw [fillL_len]; exact hi)]
    rw [List.getElem?_set] at hk ⊢
    by_cases e : i = k
    · rw [if_pos e, if_pos (by rw [fillL_len]; omega)]
    · rw [if_neg e] at hk ⊢
      have hkm : k < m.length := by have := (List.getElem?_eq_some_iff.1 hk).1; omega
      unfold fillL
      rw [List.getElem?_map, List.getElem?_eq_getElem hkm]
      simp only [Option.map_some, Option.some.injEq]
      by_cases h3 : m[k] = 3
      · rw [if_pos h3]
      · rw [if_neg h3]
        have h4 := (h2 k hkm).2 (fun e2 => h3 (by rw [List.getElem?_eq_getElem hkm] at e2; injection e2))
        rw [hk, List.getD_eq_getElem?_getD, List.getElem?_eq_getElem hkm] at h4
        injection h4 with h4
        exact h4.symm
  rcases h with h | ⟨h, h3⟩
  · exact .inl (col3_mono hm h)
  · exact .inr ⟨h, col3_mono hm h3⟩
theorem fill_in (m : List Int) : fillL m 2 ∈ allOf m := by
  refine (mem_allN m m.length _).2 ⟨fillL_len m 2, fun d hd => ?_⟩
  unfold fillL
  rw [List.getElem?_map, List.getElem?_eq_getElem hd]
  simp only [Option.map_some]
  constructor
  · intro h; injection h with h; rw [if_pos h]; exact .inr rfl
  · intro h
    rw [if_neg (fun e => h (by rw [e])), List.getD_eq_getElem?_getD, List.getElem?_eq_getElem hd]; rfl
end
def FltR (W : World) (F : List Int → Prop) (rows : List (List Int)) (n gk : Nat) (bv iv : Value) (wr : World) : Prop := ∃ (k : Nat) (fb : Bool), iv = .int .i64 k ∧ bv = .bool fb ∧ k ≤ n ∧ gk = n - k ∧ (fb = true ↔ ∃ s ∈ rows.take k, F s) ∧ Hid (Below W.heap.size W wr)
theorem flt_step {F : List Int → Prop} {rows : List (List Int)} {k : Nat} {fb h : Bool} {s : List Int} (hs : rows[k]? = some s) (hf : fb = true ↔ ∃ s ∈ rows.take k, F s) (hh : h = true ↔ F s) : (fb || h) = true ↔ ∃ s ∈ rows.take (k + 1), F s := by
  rw [take_snoc hs, Bool.or_eq_true, hf, hh]
  constructor
  · rintro (⟨t, h1, h2⟩ | h2)
    · exact ⟨t, List.mem_append_left _ h1, h2⟩
    · exact ⟨s, by simp, h2⟩
  · rintro ⟨t, h1, h2⟩
    rcases List.mem_append.1 h1 with h3 | h3
    · exact .inl ⟨t, h3, h2⟩
    · rw [List.mem_singleton.1 h3] at h2; exact .inr h2
set_option maxRecDepth 100000 in
set_option maxHeartbeats 8000000 in
theorem walk_HazardFaults (w : World) (hl : Laid w) (A : Option Addr) (n c : Nat) (zs : List Int) (hs : Sl w w.heap.size 1 A n c (intsV zs)) (_hz : ∀ z ∈ zs, (Lit.int .i64 z).wf = true) :
    Calls Tryz.prog 3 #[.slice A n c] w fun e w' => e = .returned (.bool true) ∧ Below w.heap.size w w' := by
  have hnm := hs.le
  have HL := Lib.hid hl; have HS := Lib.hid hs
  clear hl hs _hz
  have HF := Lib.hid (few_any A n c w (by omega))
  rcases hf : decide (n ≤ 400) with _ | _
  · rw [hf] at HF
    clear hf
    go_enter Tryz.func3, Tryz.ntmps3
    go_wp2_with fail
    refine HF.out.mono ?_
    rintro e w1 ⟨rfl, rfl⟩
    go_wp2_with fail
    refine (awake_any w HL.out).mono ?_
    rintro e w1 ⟨rfl, hb⟩
    go_wp2_with fail
    go_ret
    exact ⟨rfl, hb⟩
  rw [hf] at HF
  clear hf
  go_enter Tryz.func3, Tryz.ntmps3
  go_wp2_with fail
  refine HF.out.mono ?_
  rintro e w1 ⟨rfl, rfl⟩
  go_wp2_with fail
  refine (new_any A n c w.heap.size zs w HS.out (Nat.le_refl _)).mono ?_
  rintro e w1 ⟨rfl, hd1, hb1, hs1⟩
  go_wp2_with fail
  refine (mknet_any w.heap.size 6 9 w1 hd1.out (by decide) (by decide)).mono ?_
  rintro e w2 ⟨An, nn, cn, ns, Ad, nd, cd, ds, rfl, hd2, hg2, hrn, hrd, hmade⟩
  have HMK := LwN.mk0 HL.out hb1.out hs1.out hd2.out hg2.out hrn.out hrd.out hmade.out
  have HNN := Lib.hid HMK.2.1; have HND := Lib.hid HMK.2.2
  have HN3 := Lib.hid HMK.1
  have HMA := Lib.hid hmade.out
  have hnd : nd ≤ 9 := by have := hmade.out.dm; rw [HND.out] at this; omega
  have hnd1 : 1 ≤ nd := by have := hmade.out.d1; rw [HND.out] at this; omega
  have hnn : nn ≤ 6 := by have := hmade.out.nm; rw [HNN.out] at this; omega
  have HNM := Lib.hid HMA.out.names
  have HCK := Lib.hid (HMA.out.check (by decide) (by decide))
  clear HMK hd1 hb1 hs1 hd2 hg2 hrn hrd hmade HS HF
  go_wp2_with fail
  generalize World.alloc _ _ = w3 at *
  obtain ⟨nb, hnb⟩ : ∃ nb, nb = w2.heap.size := ⟨_, rfl⟩
  rw [← hnb] at HN3 ⊢
  clear hnb
  refine (mkmasks_any w.heap.size An Ad nn cn nd cd 5 ds w3 HN3.out.dk HN3.out.hd (by omega) (by decide)).mono ?_
  rintro e w5 ⟨As, cs, m, rfl, hd5, hg5, hO5, hmb, hcn⟩
  have HN5 := Lib.hid (HN3.out.grown HL.out hg5.out hd5.out)
  have HX5 : Hid (SlX w5 w.heap.size 1 As nd cs (intsV m)) := SlX.of_own hO5.out (by have := HN3.out.bl.size; have := HN3.out.bx.lt; have := HN3.out.ge; omega)
  have HLS : Hid (m.length = nd) := hO5.out.len
  clear hd5 hg5 hO5 HN3
  go_wp2_with fail
  refine (next_any w.heap.size (nd : Int) w5 HN5.out.dk (by omega)).mono ?_
  rintro e w6 ⟨v, rfl, hv0, _, hv1, hd6, hg6, hs6⟩
  have hvn := hv1.out (by omega)
  obtain ⟨d, rfl⟩ := Int.eq_ofNat_of_zero_le hv0
  have hdn : d < nd := by omega
  have HN6 := Lib.hid (HN5.out.grown HL.out hg6.out hd6.out)
  have HX6 := Lib.hid (HX5.out.grown hg6.out)
  clear hv0 hv1 hvn hd6 hg6 hs6 HN5 HX5
  have HOK := Lib.hid (NetOk.of HCK.out)
  have HMKE : Hid (maskErr ns ds m = 0) := by unfold Hid maskErr; rw [if_neg (by rw [HCK.out]; simp), if_neg (by rw [HLS.out, HND.out]; simp), if_pos hmb.out]
  have HALL : Hid (m.all maskB = true) := by unfold Hid; rw [List.all_eq_true]; exact hmb.out
  have HCE : Hid (cErr m = 0) := by unfold Hid cErr; rw [if_pos HALL.out, if_neg (by have := hcn.out; omega)]
  have HDE : Hid (devErr ds.length (d : Int) = 0) := by unfold Hid devErr; rw [HND.out, if_neg (by omega), if_neg (by omega)]
  have HEN : Hid (EndsOk nn ds) := by have := HOK.out.e; rw [HNN.out] at this; exact this
  have HAN : Hid (AOk nn ds) := by have := HOK.out.a; rw [HNN.out] at this; exact this
  clear hmb hcn
  have k0 : w6.cell? ⟨nb, 0, none⟩ = some (.slice An nn cn) := HN6.out.bx.cell 0
  have k1 : w6.cell? ⟨nb, 1, none⟩ = some (.slice Ad nd cd) := HN6.out.bx.cell 1
  go_wp2_with fail
  clear k0 k1
  refine (Fault_any An Ad As nn cn nd cd nd cs ns ds m d w6 ⟨HN6.out.hn.1, HN6.out.hd.1, HX6.out.1, Sl.nil _ _ _, Sl.nil _ _ _, HN6.out.la, HNM.out.1, HNM.out.2⟩).mono ?_
  rintro e w7 ⟨⟨h1, _⟩ | ⟨_, h1, _⟩ | ⟨_, _, x, hx, rfl⟩, hb7⟩
  · exact absurd HMKE.out h1
  · exact absurd HDE.out h1
  simp only [Int.toNat_natCast] at hx
  have HXX := Lib.hid hx
  have HXM : Hid (x ∈ ds) := List.mem_of_getElem? hx
  obtain ⟨flt, hflt⟩ : ∃ y : Bool, y = decide (dutyAt ns.length ns ds (fillL m 2) d x = 4) := ⟨_, rfl⟩
  rw [← hflt]
  have HFL : Hid (flt = true ↔ ∃ s ∈ allOf m, FB ds x d s) := by
    unfold Hid
    rw [hflt, decide_eq_true_iff, duty4 HOK.out.e HOK.out.a HXM.out]
    exact ⟨fun h => ⟨_, fill_in m, h⟩, fun ⟨s, h1, h2⟩ => fill_most h1 (by rw [HLS.out]; exact hdn) h2⟩
  have HN7 := Lib.hid (HN6.out.later hb7.out)
  have HX7 := Lib.hid (HX6.out.below hb7.out)
  clear hx hflt hb7 HN6 HX6
  have hnd1000 : m.length ≤ 1000 := by have := HLS.out; omega
  go_wp2_with fail
  have HRA := Lib.hid (rall_any As cs w7.heap.size m w7 (by rw [HLS.out]; exact HX7.out.1) (Nat.le_refl _) hnd1000)
  rw [HLS.out] at HRA
  refine HRA.out.mono ?_
  rintro e w9 ⟨⟨h1, _⟩ | ⟨_, AR, P, cR, rfl, hR⟩, hb9⟩
  · exact absurd HCE.out h1
  have HN9 := Lib.hid (HN7.out.later hb9.out)
  have hP : P ≤ 256 := by have := allOf_len HCE.out; have := hR.out.len; omega
  have HPL : Hid ((allOf m).length = P) := hR.out.len
  have hRl := hR.out.le
  have hbw : Hid (Below w.heap.size w w9) := HN9.out.bl
  clear HRA hb9 HN7 HX7
  go_wp2_with fail
  go_loopg [11, 50] P (FltR w9 (FB ds x d) (allOf m) P)
  case atStart => exact ⟨0, false, rfl, rfl, Nat.zero_le _, rfl, by simp, Below.refl _ _⟩
  case round =>
    obtain ⟨kk, fb, rfl, rfl, hkk, rfl, hfb, hb⟩ := hrel
    have HFBB := Lib.hid hfb
    clear hfb
    by_cases hlt : kk < P
    · obtain ⟨br, ofr, s, As2, cs2, rfl, hbr, hs, hcr, hsr⟩ := (hR.out.below hb.out (Nat.le_refl _)).at hlt
      have HS := Lib.hid hs
      have hsn : s.length = nd := by have := ((mem_allN m m.length s).1 (List.mem_of_getElem? hs)).1; rw [this]; exact HLS.out
      have HSN2 := Lib.hid hsn
      have HSE0 : Hid (stateErr ns ds s = 0) := state_of_mask HMKE.out (List.mem_of_getElem? hs)
      have HSR : Hid (Sl wr wr.heap.size 1 As2 nd cs2 (intsV s)) := by have h1 := hsr.more hb.out.size; rw [hsn] at h1; exact h1
      have hcr2 : wr.cell? ⟨br, ofr + kk, none⟩ = some (.slice As2 nd cs2) := by rw [hcr, hsn]
      have HNr := Lib.hid (HN9.out)
      clear hs hsr hcr hsn HNr
      go_upto_region 13 with (fail)
      clear hcr2
      have hcsl := HSR.out.le
      go_upto_region 14 with (at_builtin; go_must (refine wpList_app rfl _ (.tmp 54) rfl el_int (by rfl) (World.ownsRow_nil _ wr.heap.size _ _) (by rfl) HSR.out (ints_one _) (by omega) (by omega) (by omega) ?_; intro At ct w10 hown7 hgr7 hat7; simp only [Nat.zero_add, List.nil_append] at hown7 hgr7 ⊢; have HO7 := Lib.hid hown7; have HG7 := Lib.hid hgr7; clear hown7 hgr7 hat7))
      have HB10 : Hid (Below w9.heap.size w9 w10) := hb.out.trans (Below.mono (⟨HG7.out.os, HG7.out.tape, HG7.out.output, HG7.out.size, fun q hq => HG7.out.block q hq (fun e => by cases e)⟩ : Below wr.heap.size wr w10) hb.out.size)
      have HO10 : Hid (IntsO w10 wr.heap.size At nd ct s) := HO7.out
      have hw9r : w9.heap.size ≤ wr.heap.size := hb.out.size
      obtain ⟨Br, hBr⟩ : ∃ y, y = wr.heap.size := ⟨_, rfl⟩
      rw [← hBr] at HO10 hw9r
      clear HO7 HG7 hb HSR hBr
      obtain ⟨tg, y, rfl, htg, htl, hy, hcy, hfy, hst⟩ := HO10.out.at hdn
      have HO11 := Lib.hid (hst 2)
      have HB11 := Lib.hid (HB10.out.setCell (p := ⟨tg, d, none⟩) (by simp; omega) (.int .i64 2))
      clear hst hy HB10 HO10
      go_upto_region 15 with (fail)
      clear hcy hfy
      generalize World.setCell w10 _ _ = w11 at *
      have HN11 := Lib.hid (HN9.out.later HB11.out)
      have HSL : Hid (d < s.length) := by unfold Hid; rw [HSN2.out]; exact hdn
      have HSE2 : Hid (stateErr ns ds (s.set d 2) = 0) := by unfold Hid; rw [← withL_is HSL.out]; exact stateErr_with HSE0.out d (.inr rfl)
      have HSE1 : Hid (stateErr ns ds (s.set d 1) = 0) := by unfold Hid; rw [← withL_is HSL.out]; exact stateErr_with HSE0.out d (.inl rfl)
      have k0 : w11.cell? ⟨nb, 0, none⟩ = some (.slice An nn cn) := HN11.out.bx.cell 0
      have k1 : w11.cell? ⟨nb, 1, none⟩ = some (.slice Ad nd cd) := HN11.out.bx.cell 1
      go_wp2_with fail
      clear k0 k1
      refine (rfaults_any An Ad (some ⟨tg, 0, none⟩) nn cn nd cd nd ct ns ds (s.set d 2) w11 HN11.out.hn.1 HN11.out.hd.1 HO11.out.sl HNM.out.1 HNM.out.2 (by omega) HSE2.out ⟨Nat.le_refl _, HEN.out, HOK.out.ne⟩ ⟨HAN.out, HOK.out.k⟩).mono ?_
      rintro e w12 ⟨AF, mF, cF, fl, rfl, hOF, hFL, hb12⟩
      have HN12 := Lib.hid (HN11.out.later hb12.out)
      have HO12 := Lib.hid (HO11.out.later hb12.out)
      have HB12 := Lib.hid (HB11.out.trans (hb12.out.mono HB11.out.size))
      have HSF := Lib.hid hOF.out.sl
      obtain ⟨b0, off, x', e0, hb0, hx', hc⟩ := HN12.out.hd.1.at (k := d) (fun _ => rfl) (by decide) hdn
      obtain rfl : x = x' := by have := HXX.out; rw [this] at hx'; exact Option.some.inj hx'
      have hxa := HAN.out x HXM.out
      have HXE : Hid (joinsB x.kind = true → 0 ≤ x.b ∧ x.b < nn) := fun h => (HEN.out x HXM.out h).2
      have HFA : Hid (hasB fl x.a = true ↔ colV ds (withL s d 2) x.a = 3) := by
        unfold Hid
        rw [hasB_iff, hFL.out, withL_is HSL.out]
        constructor
        · rintro ⟨k, hk, e, h⟩; rw [e]; exact h
        · intro h; exact ⟨x.a.toNat, by omega, by omega, by rw [show ((x.a.toNat : Nat) : Int) = x.a by omega]; exact h⟩
      have HFB2 : Hid (joinsB x.kind = true → (hasB fl x.b = true ↔ colV ds (withL s d 2) x.b = 3)) := fun hj => by
        have := HXE.out hj
        rw [hasB_iff, hFL.out, withL_is HSL.out]
        constructor
        · rintro ⟨k, hk, e, h⟩; rw [e]; exact h
        · intro h; exact ⟨x.b.toNat, by omega, by omega, by rw [show ((x.b.toNat : Nat) : Int) = x.b by omega]; exact h⟩
      have HFG : Hid (hasB (hzAt ns.length ns ds (s.set d 1) d 2 0 [] [] x) 1 = true ↔ FB ds x d s) := fault_flag HOK.out.e HOK.out.a HXM.out HSL.out
      have HFD : Hid (FB ds x d s ↔ (hasB fl x.a || (joinsB x.kind && hasB fl x.b)) = true) := by
        unfold Hid FB
        rw [Bool.or_eq_true, Bool.and_eq_true, HFA.out]
        constructor
        · rintro (h | ⟨h, h2⟩)
          · exact .inl h
          · exact .inr ⟨h, (HFB2.out h).2 h2⟩
        · rintro (h | ⟨h, h2⟩)
          · exact .inl h
          · exact .inr ⟨h, (HFB2.out h).1 h2⟩
      obtain ⟨nm, kd, xa, xb, xc⟩ := x
      have c0 : w12.cell? ⟨b0, off + d * 5, none⟩ = some (.string nm) := hc 0 _ rfl
      have c1 : w12.cell? ⟨b0, off + d * 5 + 1, none⟩ = some (.int .i64 kd) := hc 1 _ rfl
      have c2 : w12.cell? ⟨b0, off + d * 5 + 2, none⟩ = some (.int .i64 xa) := hc 2 _ rfl
      have c3 : w12.cell? ⟨b0, off + d * 5 + 3, none⟩ = some (.int .i64 xb) := hc 3 _ rfl
      have c4 : w12.cell? ⟨b0, off + d * 5 + 4, none⟩ = some (.int .i64 xc) := hc 4 _ rfl
      have k1 : w12.cell? ⟨nb, 1, none⟩ = some (.slice (some ⟨b0, off, none⟩) nd cd) := by rw [← e0]; exact HN12.out.bx.cell 1
      clear e0
      have HBE : Hid (Below w12.heap.size w12 (w12.alloc (.cells #[.string nm, .int .i64 kd, .int .i64 xa, .int .i64 xb, .int .i64 xc] 43))) := (Below.refl _ _).alloc (Nat.le_refl _) _
      have HN13 := Lib.hid (HN12.out.later HBE.out)
      have HO13 : Hid (IntsO (w12.alloc (.cells #[.string nm, .int .i64 kd, .int .i64 xa, .int .i64 xb, .int .i64 xc] 43)) Br (some ⟨tg, 0, none⟩) nd ct (s.set d 2)) := HO12.out.alloc _
      have HB13 := Lib.hid (HB12.out.trans (HBE.out.mono HB12.out.size))
      have HSF13 := Lib.hid ((HSF.out.below HBE.out (Nat.le_refl _)).more HBE.out.size)
      have HVE := Lib.hid (Blk.new w12 43 #[.string nm, .int .i64 kd, .int .i64 xa, .int .i64 xb, .int .i64 xc])
      clear hx' hc hb12 hOF hFL HN11 HO11 HB11 HN12 HO12 HB12 HSF HBE HFA HFB2 HXE hxa
      go_upto_region 17 with (fail)
      clear c0 c1 c2 c3 c4 k1
      generalize World.alloc w12 _ = WE at *
      obtain ⟨vb, hvb⟩ : ∃ y, y = w12.heap.size := ⟨_, rfl⟩
      rw [← hvb] at HVE ⊢
      clear hvb
      have v1 : WE.cell? ⟨vb, 1, none⟩ = some (.int .i64 kd) := HVE.out.cell 1
      have v2 : WE.cell? ⟨vb, 2, none⟩ = some (.int .i64 xa) := HVE.out.cell 2
      have v3 : WE.cell? ⟨vb, 3, none⟩ = some (.int .i64 xb) := HVE.out.cell 3
      go_wp2_with fail
      refine (rhasb_any AF mF cF fl xa WE HSF13.out).mono ?_
      rintro e w20 ⟨rfl, rfl⟩
      rcases hha : hasB fl xa with _ | _
      · go_wp2_with fail
        refine (rjoins_any kd WE).mono ?_
        rintro e w21 ⟨rfl, rfl⟩
        rcases hj : joinsB kd with _ | _
        · have hv : (hasB fl xa || (joinsB kd && hasB fl xb)) = false := by rw [hha, hj]; rfl
          have HV : Hid (FB ds ⟨nm, kd, xa, xb, xc⟩ d s ↔ false = true) := by have := HFD.out; rw [hv] at this; exact this
          have HHB : Hid (hasB (hzAt ns.length ns ds (s.set d 1) d 2 0 [] [] ⟨nm, kd, xa, xb, xc⟩) 1 = false) := by unfold Hid; rw [Bool.eq_iff_iff, HFG.out]; exact HV.out
          clear hv HFD HFG
          obtain ⟨tg2, y2, e2, htg2, htl2, hy2, hcy2, hfy2, hst2⟩ := HO13.out.at hdn
          injection e2 with e2
          injection e2 with e2
          subst e2
          have HO14 : Hid (IntsO (WE.setCell ⟨tg, d, none⟩ (.int .i64 1)) Br (some ⟨tg, 0, none⟩) nd ct (s.set d 1)) := by have h1 := hst2 1; rw [List.set_set] at h1; exact h1
          have HB14 := Lib.hid (HB13.out.setCell (p := ⟨tg, d, none⟩) (by simp; omega) (.int .i64 1))
          clear hst2 hy2 HO13 HB13 HSF13
          go_upto_region 19 with (fail)
          clear hcy2 hfy2 v1 v2 v3
          generalize World.setCell WE _ _ = w14 at *
          have HN14 := Lib.hid (HN9.out.later HB14.out)
          have k0 : w14.cell? ⟨nb, 0, none⟩ = some (.slice An nn cn) := HN14.out.bx.cell 0
          have k1 : w14.cell? ⟨nb, 1, none⟩ = some (.slice Ad nd cd) := HN14.out.bx.cell 1
          go_wp2_with fail
          clear k0 k1
          have HIE : Hid (inErr ns ds (s.set d 1) d 2 0 = 0) := by
            unfold Hid inErr hzErr
            rw [if_pos HSE1.out, HND.out, if_neg (by omega), if_neg (by omega), if_neg (by omega), if_neg (by omega), if_neg (by omega)]
          refine (In_any An Ad (some ⟨tg, 0, none⟩) none none nn cn nd cd nd ct 0 0 0 0 ns ds (s.set d 1) [] [] d 2 0 w14 ⟨HN14.out.hn.1, HN14.out.hd.1, HO14.out.sl, Sl.nil _ _ _, Sl.nil _ _ _, HN14.out.la, HNM.out.1, HNM.out.2⟩).mono ?_
          rintro e w15 ⟨⟨h1, _⟩ | ⟨_, AH, q, cH, x', hx', rfl, hOH⟩, hb15⟩
          · exact absurd HIE.out h1
          simp only [Int.toNat_natCast] at hx' hOH
          obtain rfl : ⟨nm, kd, xa, xb, xc⟩ = x' := by have := HXX.out; rw [this] at hx'; exact Option.some.inj hx'
          have HB15 := Lib.hid (HB14.out.trans (hb15.out.mono HB14.out.size))
          have HSO := Lib.hid hOH.out.sl
          clear hx' hOH hb15 HN14 HO14 HB14
          go_wp2_with fail
          refine (rhasb_any AH q cH _ 1 w15 HSO.out).mono ?_
          rintro e w16 ⟨rfl, rfl⟩
          rw [HHB.out]
          have HST := Lib.hid (flt_step (h := false) HS.out HFBB.out (by simpa using HV.out.symm))
          rcases fb with _ | _
          · go_wp2_with fail
            go_roundg (P - (kk + 1))
            case rel => exact ⟨kk + 1, _, by go_num, rfl, by omega, rfl, HST.out, HB15⟩
            case measure => omega
          · go_wp2_with fail
            go_roundg (P - (kk + 1))
            case rel => exact ⟨kk + 1, true, by go_num, rfl, by omega, rfl, by simpa using HST.out, HB15⟩
            case measure => omega
        · go_wp2_with fail
          refine (rhasb_any AF mF cF fl xb WE HSF13.out).mono ?_
          rintro e w22 ⟨rfl, rfl⟩
          rcases hhb : hasB fl xb with _ | _
          · have hv : (hasB fl xa || (joinsB kd && hasB fl xb)) = false := by rw [hha, hj, hhb]; rfl
            have HV : Hid (FB ds ⟨nm, kd, xa, xb, xc⟩ d s ↔ false = true) := by have := HFD.out; rw [hv] at this; exact this
            have HHB : Hid (hasB (hzAt ns.length ns ds (s.set d 1) d 2 0 [] [] ⟨nm, kd, xa, xb, xc⟩) 1 = false) := by unfold Hid; rw [Bool.eq_iff_iff, HFG.out]; exact HV.out
            clear hv HFD HFG
            obtain ⟨tg2, y2, e2, htg2, htl2, hy2, hcy2, hfy2, hst2⟩ := HO13.out.at hdn
            injection e2 with e2
            injection e2 with e2
            subst e2
            have HO14 : Hid (IntsO (WE.setCell ⟨tg, d, none⟩ (.int .i64 1)) Br (some ⟨tg, 0, none⟩) nd ct (s.set d 1)) := by have h1 := hst2 1; rw [List.set_set] at h1; exact h1
            have HB14 := Lib.hid (HB13.out.setCell (p := ⟨tg, d, none⟩) (by simp; omega) (.int .i64 1))
            clear hst2 hy2 HO13 HB13 HSF13
            go_upto_region 19 with (fail)
            clear hcy2 hfy2 v1 v2 v3
            generalize World.setCell WE _ _ = w14 at *
            have HN14 := Lib.hid (HN9.out.later HB14.out)
            have k0 : w14.cell? ⟨nb, 0, none⟩ = some (.slice An nn cn) := HN14.out.bx.cell 0
            have k1 : w14.cell? ⟨nb, 1, none⟩ = some (.slice Ad nd cd) := HN14.out.bx.cell 1
            go_wp2_with fail
            clear k0 k1
            have HIE : Hid (inErr ns ds (s.set d 1) d 2 0 = 0) := by
              unfold Hid inErr hzErr
              rw [if_pos HSE1.out, HND.out, if_neg (by omega), if_neg (by omega), if_neg (by omega), if_neg (by omega), if_neg (by omega)]
            refine (In_any An Ad (some ⟨tg, 0, none⟩) none none nn cn nd cd nd ct 0 0 0 0 ns ds (s.set d 1) [] [] d 2 0 w14 ⟨HN14.out.hn.1, HN14.out.hd.1, HO14.out.sl, Sl.nil _ _ _, Sl.nil _ _ _, HN14.out.la, HNM.out.1, HNM.out.2⟩).mono ?_
            rintro e w15 ⟨⟨h1, _⟩ | ⟨_, AH, q, cH, x', hx', rfl, hOH⟩, hb15⟩
            · exact absurd HIE.out h1
            simp only [Int.toNat_natCast] at hx' hOH
            obtain rfl : ⟨nm, kd, xa, xb, xc⟩ = x' := by have := HXX.out; rw [this] at hx'; exact Option.some.inj hx'
            have HB15 := Lib.hid (HB14.out.trans (hb15.out.mono HB14.out.size))
            have HSO := Lib.hid hOH.out.sl
            clear hx' hOH hb15 HN14 HO14 HB14
            go_wp2_with fail
            refine (rhasb_any AH q cH _ 1 w15 HSO.out).mono ?_
            rintro e w16 ⟨rfl, rfl⟩
            rw [HHB.out]
            have HST := Lib.hid (flt_step (h := false) HS.out HFBB.out (by simpa using HV.out.symm))
            rcases fb with _ | _
            · go_wp2_with fail
              go_roundg (P - (kk + 1))
              case rel => exact ⟨kk + 1, _, by go_num, rfl, by omega, rfl, HST.out, HB15⟩
              case measure => omega
            · go_wp2_with fail
              go_roundg (P - (kk + 1))
              case rel => exact ⟨kk + 1, true, by go_num, rfl, by omega, rfl, by simpa using HST.out, HB15⟩
              case measure => omega
          · have hv : (hasB fl xa || (joinsB kd && hasB fl xb)) = true := by rw [hha, hj, hhb]; rfl
            have HV : Hid (FB ds ⟨nm, kd, xa, xb, xc⟩ d s ↔ true = true) := by have := HFD.out; rw [hv] at this; exact this
            have HHB : Hid (hasB (hzAt ns.length ns ds (s.set d 1) d 2 0 [] [] ⟨nm, kd, xa, xb, xc⟩) 1 = true) := by unfold Hid; rw [Bool.eq_iff_iff, HFG.out]; exact HV.out
            clear hv HFD HFG
            obtain ⟨tg2, y2, e2, htg2, htl2, hy2, hcy2, hfy2, hst2⟩ := HO13.out.at hdn
            injection e2 with e2
            injection e2 with e2
            subst e2
            have HO14 : Hid (IntsO (WE.setCell ⟨tg, d, none⟩ (.int .i64 1)) Br (some ⟨tg, 0, none⟩) nd ct (s.set d 1)) := by have h1 := hst2 1; rw [List.set_set] at h1; exact h1
            have HB14 := Lib.hid (HB13.out.setCell (p := ⟨tg, d, none⟩) (by simp; omega) (.int .i64 1))
            clear hst2 hy2 HO13 HB13 HSF13
            go_upto_region 19 with (fail)
            clear hcy2 hfy2 v1 v2 v3
            generalize World.setCell WE _ _ = w14 at *
            have HN14 := Lib.hid (HN9.out.later HB14.out)
            have k0 : w14.cell? ⟨nb, 0, none⟩ = some (.slice An nn cn) := HN14.out.bx.cell 0
            have k1 : w14.cell? ⟨nb, 1, none⟩ = some (.slice Ad nd cd) := HN14.out.bx.cell 1
            go_wp2_with fail
            clear k0 k1
            have HIE : Hid (inErr ns ds (s.set d 1) d 2 0 = 0) := by
              unfold Hid inErr hzErr
              rw [if_pos HSE1.out, HND.out, if_neg (by omega), if_neg (by omega), if_neg (by omega), if_neg (by omega), if_neg (by omega)]
            refine (In_any An Ad (some ⟨tg, 0, none⟩) none none nn cn nd cd nd ct 0 0 0 0 ns ds (s.set d 1) [] [] d 2 0 w14 ⟨HN14.out.hn.1, HN14.out.hd.1, HO14.out.sl, Sl.nil _ _ _, Sl.nil _ _ _, HN14.out.la, HNM.out.1, HNM.out.2⟩).mono ?_
            rintro e w15 ⟨⟨h1, _⟩ | ⟨_, AH, q, cH, x', hx', rfl, hOH⟩, hb15⟩
            · exact absurd HIE.out h1
            simp only [Int.toNat_natCast] at hx' hOH
            obtain rfl : ⟨nm, kd, xa, xb, xc⟩ = x' := by have := HXX.out; rw [this] at hx'; exact Option.some.inj hx'
            have HB15 := Lib.hid (HB14.out.trans (hb15.out.mono HB14.out.size))
            have HSO := Lib.hid hOH.out.sl
            clear hx' hOH hb15 HN14 HO14 HB14
            go_wp2_with fail
            refine (rhasb_any AH q cH _ 1 w15 HSO.out).mono ?_
            rintro e w16 ⟨rfl, rfl⟩
            rw [HHB.out]
            have HST := Lib.hid (flt_step (h := true) HS.out HFBB.out (by simpa using HV.out.symm))
            rcases fb with _ | _
            · go_wp2_with fail
              go_roundg (P - (kk + 1))
              case rel => exact ⟨kk + 1, _, by go_num, rfl, by omega, rfl, HST.out, HB15⟩
              case measure => omega
            · go_wp2_with fail
              go_roundg (P - (kk + 1))
              case rel => exact ⟨kk + 1, true, by go_num, rfl, by omega, rfl, by simpa using HST.out, HB15⟩
              case measure => omega
      · have hv : (hasB fl xa || (joinsB kd && hasB fl xb)) = true := by rw [hha]; rfl
        have HV : Hid (FB ds ⟨nm, kd, xa, xb, xc⟩ d s ↔ true = true) := by have := HFD.out; rw [hv] at this; exact this
        have HHB : Hid (hasB (hzAt ns.length ns ds (s.set d 1) d 2 0 [] [] ⟨nm, kd, xa, xb, xc⟩) 1 = true) := by unfold Hid; rw [Bool.eq_iff_iff, HFG.out]; exact HV.out
        clear hv HFD HFG
        obtain ⟨tg2, y2, e2, htg2, htl2, hy2, hcy2, hfy2, hst2⟩ := HO13.out.at hdn
        injection e2 with e2
        injection e2 with e2
        subst e2
        have HO14 : Hid (IntsO (WE.setCell ⟨tg, d, none⟩ (.int .i64 1)) Br (some ⟨tg, 0, none⟩) nd ct (s.set d 1)) := by have h1 := hst2 1; rw [List.set_set] at h1; exact h1
        have HB14 := Lib.hid (HB13.out.setCell (p := ⟨tg, d, none⟩) (by simp; omega) (.int .i64 1))
        clear hst2 hy2 HO13 HB13 HSF13
        go_upto_region 19 with (fail)
        clear hcy2 hfy2 v1 v2 v3
        generalize World.setCell WE _ _ = w14 at *
        have HN14 := Lib.hid (HN9.out.later HB14.out)
        have k0 : w14.cell? ⟨nb, 0, none⟩ = some (.slice An nn cn) := HN14.out.bx.cell 0
        have k1 : w14.cell? ⟨nb, 1, none⟩ = some (.slice Ad nd cd) := HN14.out.bx.cell 1
        go_wp2_with fail
        clear k0 k1
        have HIE : Hid (inErr ns ds (s.set d 1) d 2 0 = 0) := by
          unfold Hid inErr hzErr
          rw [if_pos HSE1.out, HND.out, if_neg (by omega), if_neg (by omega), if_neg (by omega), if_neg (by omega), if_neg (by omega)]
        refine (In_any An Ad (some ⟨tg, 0, none⟩) none none nn cn nd cd nd ct 0 0 0 0 ns ds (s.set d 1) [] [] d 2 0 w14 ⟨HN14.out.hn.1, HN14.out.hd.1, HO14.out.sl, Sl.nil _ _ _, Sl.nil _ _ _, HN14.out.la, HNM.out.1, HNM.out.2⟩).mono ?_
        rintro e w15 ⟨⟨h1, _⟩ | ⟨_, AH, q, cH, x', hx', rfl, hOH⟩, hb15⟩
        · exact absurd HIE.out h1
        simp only [Int.toNat_natCast] at hx' hOH
        obtain rfl : ⟨nm, kd, xa, xb, xc⟩ = x' := by have := HXX.out; rw [this] at hx'; exact Option.some.inj hx'
        have HB15 := Lib.hid (HB14.out.trans (hb15.out.mono HB14.out.size))
        have HSO := Lib.hid hOH.out.sl
        clear hx' hOH hb15 HN14 HO14 HB14
        go_wp2_with fail
        refine (rhasb_any AH q cH _ 1 w15 HSO.out).mono ?_
        rintro e w16 ⟨rfl, rfl⟩
        rw [HHB.out]
        have HST := Lib.hid (flt_step (h := true) HS.out HFBB.out (by simpa using HV.out.symm))
        rcases fb with _ | _
        · go_wp2_with fail
          go_roundg (P - (kk + 1))
          case rel => exact ⟨kk + 1, _, by go_num, rfl, by omega, rfl, HST.out, HB15⟩
          case measure => omega
        · go_wp2_with fail
          go_roundg (P - (kk + 1))
          case rel => exact ⟨kk + 1, true, by go_num, rfl, by omega, rfl, by simpa using HST.out, HB15⟩
          case measure => omega
    · obtain rfl : kk = P := by omega
      have hkk2 : decide (kk < kk) = false := by simp
      have HEQ : Hid (flt = fb) := by
        unfold Hid
        rw [Bool.eq_iff_iff, HFL.out, HFBB.out, List.take_of_length_le (by rw [HPL.out]; exact Nat.le_refl _)]
      have HB9 := Lib.hid hb.out
      rw [HEQ.out]
      clear hb
      have q1 : (fb == fb) = true := by simp
      go_wp2_with fail
      refine (awake_any _ (HN9.out.la.below HB9.out (Nat.le_refl _))).mono ?_
      rintro e w40 ⟨rfl, hbE⟩
      have HBE := Lib.hid (hbw.out.trans ((HB9.out.trans (hbE.mono HB9.out.size)).mono hbw.out.size))
      clear hbE
      go_wp2_with fail
      go_ret
      exact ⟨rfl, HBE.out⟩
end Go.Proofs.YtdpmfdcackoegaaGreatDoor
