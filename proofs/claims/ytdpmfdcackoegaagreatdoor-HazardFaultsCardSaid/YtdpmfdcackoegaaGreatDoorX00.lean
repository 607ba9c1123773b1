import Derived.Test.YtdpmfdcackoegaaGreatDoorZ31
import Derived.Test.YtdpmfdcackoegaaGreatDoorZ38
import Derived.Test.YtdpmfdcackoegaaGreatDoorZ39
/-
  The statements' maker of masks.
-/
namespace Go.Proofs.YtdpmfdcackoegaaGreatDoor
open Go.RowKit
def MasksPost (w : World) (g nd most : Nat) (e : Ending) (w' : World) : Prop :=
  ∃ (A : Option Addr) (c : Nat) (m : List Int), e = .returned (.slice A nd c) ∧ Hid (DeckAt w' g) ∧ Hid (w.grownBy w' (some g)) ∧ Hid (IntsO w' (w.heap.size + 1) A nd c m) ∧ Hid (∀ p ∈ m, maskB p = true) ∧ Hid (cntN m m.length ≤ most)
theorem cnt_state {s : List Int} (h : ∀ p ∈ s, posB p = true) : ∀ n, cntN s n = 0
  | 0 => rfl
  | n + 1 => by
    rw [cntN_succ, cnt_state h n, if_neg]
    intro e
    have := h 3 (List.mem_of_getElem? e)
    simp [posB] at this
theorem cnt_set (m : List Int) (i : Nat) : ∀ n, cntN (m.set i 3) n ≤ cntN m n + 1 ∧ (n ≤ i → cntN (m.set i 3) n = cntN m n)
  | 0 => ⟨by simp [cntN, unkN], fun _ => rfl⟩
  | n + 1 => by
    obtain ⟨h1, h2⟩ := cnt_set m i n
    rw [cntN_succ, cntN_succ]
    by_cases hn : n = i
    · subst hn
      have := h2 (Nat.le_refl _)
      refine ⟨?_, fun h => by omega⟩
      rw [this]
      split <;> split <;> omega
    · rw [List.getElem?_set_ne (by omega)]
      exact ⟨by omega, fun h => by rw [h2 (by omega)]⟩
def MmR (W : World) (g nd most : Nat) (A : Option Addr) (c gk : Nat) (iv : Value) (wr : World) : Prop :=
  ∃ (i : Nat) (m : List Int), iv = .int .i64 i ∧ i ≤ most ∧ gk = most - i ∧ Hid (IntsO wr (W.heap.size + 1) A nd c m) ∧ Hid (DeckAt wr g) ∧ Hid (W.grownBy wr (some g)) ∧ Hid (∀ p ∈ m, maskB p = true) ∧ Hid (cntN m m.length ≤ i)
set_option maxRecDepth 100000 in
set_option maxHeartbeats 4000000 in
theorem mkmasks_any (g : Nat) (An Ad : Option Addr) (nn cn nd cd most : Nat) (ds : List Dv) (w : World) (hd : DeckAt w g) (hx : SlX w g 5 Ad nd cd (ds.flatMap Dv.cells)) (hnd : nd ≤ 1000) (hmo : most ≤ 1000) :
    Calls Tryz.prog 12 #[.pointer (some ⟨g, 0, none⟩), .agg #[.slice An nn cn, .slice Ad nd cd], .int .i64 (most : Int)] w (MasksPost w g nd most) := by
  have hlt := hd.lt
  have HST := Lib.hid (mkstate_any g An Ad nn cn nd cd ds (w.alloc (.cells #[.slice An nn cn, .slice Ad nd cd] 30)) (hd.alloc _) (hx.alloc _) hnd)
  have HB0 : Hid (w.grownBy (w.alloc (.cells #[.slice An nn cn, .slice Ad nd cd] 30)) (some g)) := grown_of_below ((Below.refl _ _).alloc (Nat.le_refl _) _) _
  have HW : Hid ((w.alloc (.cells #[.slice An nn cn, .slice Ad nd cd] 30)).heap.size = w.heap.size + 1) := by unfold Hid; simp
  clear hd hx
  go_enter Tryz.func12, Tryz.ntmps12
  go_wp2_with fail
  generalize World.alloc _ _ = W at *
  refine HST.out.mono ?_
  rintro e w1 ⟨A, c, s, rfl, hd1, hg1, hO1, hp1⟩
  have HM1 : Hid (∀ p ∈ s, maskB p = true) := fun p hp => by have := hp1.out p hp; simp [posB, maskB] at *; omega
  have HC1 : Hid (cntN s s.length ≤ 0) := by unfold Hid; rw [cnt_state hp1.out]; exact Nat.le_refl _
  have hWz := HW.out
  have hgW : g < W.heap.size := by omega
  clear HST hp1 hWz
  go_wp2_with fail
  go_loopg [8] most (MmR W g nd most A c)
  case atStart => exact ⟨0, s, rfl, Nat.zero_le _, rfl, hO1, hd1, hg1, HM1, HC1⟩
  case round =>
    clear hO1 hd1 hg1 HM1 HC1
    obtain ⟨i, m, rfl, hi, rfl, hO, hD, hG, hM, hC⟩ := hrel
    by_cases hgo : i < most ∧ 0 < nd
    · obtain ⟨hlt2, hnd0⟩ := hgo
      go_wp2_with fail
      refine (one_any g 2 wr hD.out (by decide)).mono ?_
      rintro e w3 ⟨r, rfl, hd3, hg3, hs3⟩
      have HO3 := Lib.hid (hO.out.kept hg3.out (ne_row fun b e => by have := (hO.out.lt b e).1; omega))
      have HG3 := Lib.hid (grown_trans hG.out hg3.out)
      clear hD hG hg3 hs3 hO
      rcases r with _ | _
      · have HC2 : Hid (cntN m m.length ≤ i + 1) := by have := hC.out; unfold Hid; omega
        go_wp2_with fail
        go_roundg (most - (i + 1))
        case rel => exact ⟨i + 1, m, by go_num, by omega, rfl, HO3, hd3, HG3, hM, HC2⟩
        case measure => omega
      · go_wp2_with fail
        refine (next_any g (nd : Int) w3 hd3.out (by omega)).mono ?_
        rintro e w4 ⟨v, rfl, hv0, _, hv1, hd4, hg4, hs4⟩
        have hvn := hv1.out (by omega)
        obtain ⟨t, rfl⟩ := Int.eq_ofNat_of_zero_le hv0
        have htn : t < nd := by omega
        have HO4 := Lib.hid (HO3.out.kept hg4.out (ne_row fun b e => by have := (HO3.out.lt b e).1; omega))
        have HG4 := Lib.hid (grown_trans HG3.out hg4.out)
        clear hd3 hg4 hs4 HO3 HG3 hv1 hvn hv0
        obtain ⟨q, y, rfl, hq1, hq2, hy, hcy, hfy, hst⟩ := IntsO.at HO4.out htn
        have HSW := Lib.hid (hst 3)
        have HD5 := Lib.hid (hd4.out.setCell (p := ⟨q, t, none⟩) (by simp; omega) (.int .i64 3))
        have HG5 := Lib.hid (grown_set HG4.out (p := ⟨q, t, none⟩) (by simp; omega) (.int .i64 3))
        have HM5 : Hid (∀ p ∈ m.set t 3, maskB p = true) := fun p hp => by
          rcases List.mem_or_eq_of_mem_set hp with h1 | h1
          · exact hM.out p h1
          · rw [h1]; rfl
        have HC5 : Hid (cntN (m.set t 3) (m.set t 3).length ≤ i + 1) := by
          have h1 := (cnt_set m t m.length).1
          have h2 := hC.out
          unfold Hid; rw [List.length_set]; omega
        clear hst hd4 HO4 HG4 hy
        go_wp2_with fail
        go_roundg (most - (i + 1))
        case rel => exact ⟨i + 1, _, by go_num, by omega, rfl, HSW, HD5, HG5, HM5, HC5⟩
        case measure => omega
    · have HEND : Hid (MasksPost w g nd most (.returned (.slice A nd c)) wr) := ⟨A, c, m, rfl, hD, grown_trans HB0.out hG.out, hO.out.mono (by have := HW.out; omega), hM, (by have := hC.out; unfold Hid; omega)⟩
      by_cases hl : i < most
      · obtain rfl : nd = 0 := by omega
        go_wp2_with fail
        go_ret
        exact HEND.out
      · have ql : decide ((i : Int) < (most : Int)) = false := by simp; omega
        have ql2 : decide (i < most) = false := by simp; omega
        go_wp2_with fail
        go_ret
        exact HEND.out
end Go.Proofs.YtdpmfdcackoegaaGreatDoor
/-
  The reference's All: all agreeing states.
-/
namespace Go.Proofs.YtdpmfdcackoegaaGreatDoor
open Go.RowKit
theorem RowsO.appL {w w' : World} {base n c : Nat} {A : Option Addr} {ls : List (List Int)} {vs : List Value} (h : RowsO w base A n c ls vs) {A1 An : Option Addr} {c1 cn ln : Nat} {l : List Int} (hln : l.length = ln) (hown : w'.ownsRow base 22 1 (.slice A1 (n + 1) c1) (n + 1) (vs ++ [.slice An ln cn])) (hg : w.grownBy w' (Value.slice A n c).ownBlock)
    (hat : (Value.slice A1 (n + 1) c1).ownBlock = (Value.slice A n c).ownBlock ∨ (Value.slice A1 (n + 1) c1).ownBlock = some w.heap.size) (hl : Sl w w.heap.size 1 An ln cn (intsV l)) (hlt : ∀ b off, An = some ⟨b, off, none⟩ → b < w.heap.size ∧ some b ≠ (Value.slice A n c).ownBlock) : RowsO w' base A1 (n + 1) c1 (ls ++ [l]) (vs ++ [.slice An ln cn]) := by
  subst hln
  exact h.app hown hg hat hl hlt
/-- What of one row is laid. -/
def partL (x : Int) (o : List Int) (p : Nat) : List (List Int) := (if 2 ≤ p ∧ x ≠ 2 then [o ++ [1]] else []) ++ (if 3 ≤ p ∧ x ≠ 1 then [o ++ [2]] else [])
theorem partL_one (x : Int) (o : List Int) : partL x o 1 = [] := rfl
theorem partL_done {x : Int} (o : List Int) (h : x = 1 ∨ x = 2 ∨ x = 3) : partL x o 3 = nextL (some x) o := by
  rcases h with rfl | rfl | rfl <;> rfl
theorem partL_len (x : Int) (o : List Int) (p : Nat) : (partL x o p).length ≤ 2 := by
  unfold partL; split <;> split <;> simp
theorem next_len (x : Option Int) (ls : List (List Int)) : (ls.flatMap (nextL x)).length ≤ 2 * ls.length := by
  induction ls with
  | nil => simp
  | cons o ls ih =>
    rw [List.flatMap_cons, List.length_append, List.length_cons]
    have : (nextL x o).length ≤ 2 := by unfold nextL; split <;> simp
    omega
theorem cErr_zero {m : List Int} (h : cErr m = 0) : (∀ x ∈ m, maskB x = true) ∧ cntN m m.length ≤ 8 := by
  unfold cErr at h
  split at h
  · next hv =>
    split at h
    · omega
    · exact ⟨List.all_eq_true.1 hv, by omega⟩
  · omega
def RaR1 (w : World) (m : List Int) (gk : Nat) (ov iv : Value) (wr : World) : Prop := ∃ (i no co : Nat) (Ao : Option Addr), iv = .int .i64 i ∧ ov = .slice Ao no co ∧ i ≤ m.length ∧ gk = m.length - i ∧ Hid (RowsAt wr wr.heap.size Ao no co (allN m i)) ∧ Hid (Below w.heap.size w wr)
def RaR2 (W : World) (m : List Int) (i no gk : Nat) (ov iv : Value) (wr : World) : Prop := ∃ (k nx cx : Nat) (Ax : Option Addr) (vs : List Value), iv = .int .i64 k ∧ ov = .slice Ax nx cx ∧ k ≤ no ∧ gk = no - k ∧ Hid (RowsO wr W.heap.size Ax nx cx (((allN m i).take k).flatMap (nextL m[i]?)) vs) ∧ Hid (Below W.heap.size W wr)
def RaR3 (W : World) (m : List Int) (i k : Nat) (x : Int) (o : List Int) (gk : Nat) (ov pv : Value) (wr : World) : Prop := ∃ (p nx cx : Nat) (Ax : Option Addr) (vs : List Value), pv = .int .i64 p ∧ ov = .slice Ax nx cx ∧ 1 ≤ p ∧ p ≤ 3 ∧ gk = 3 - p ∧ Hid (RowsO wr W.heap.size Ax nx cx (((allN m i).take k).flatMap (nextL m[i]?) ++ partL x o p) vs) ∧ Hid (Below W.heap.size W wr)
set_option maxRecDepth 100000 in
set_option maxHeartbeats 8000000 in
theorem rall_any (A : Option Addr) (c B : Nat) (m : List Int) (w : World) (hs : Sl w B 1 A m.length c (intsV m)) (hB : B ≤ w.heap.size) (hn : m.length ≤ 1000) : Calls Tryz.prog 15 #[.slice A m.length c] w (MAllPost w m) := by
  have HC := Lib.hid (rcount_any A m.length c B m w hs hB (by omega))
  have HS := Lib.hid hs
  clear hs
  by_cases he : cErr m = 0; rotate_left
  · have q : (cErr m != 0) = true := by simpa using he
    have HE := Lib.hid he
    clear he
    go_enter Tryz.func15, Tryz.ntmps15
    go_wp2_with fail
    refine HC.out.mono ?_
    rintro e w1 ⟨rfl, hb1⟩
    go_wp2_with fail
    go_ret2
    exact ⟨.inl ⟨HE.out, rfl⟩, hb1⟩
  have HMB := Lib.hid (cErr_zero he).1
  have HU8 := Lib.hid (cErr_zero he).2
  have HE := Lib.hid he
  rw [he] at HC
  clear he
  generalize cntV m = cv at *
  go_enter Tryz.func15, Tryz.ntmps15
  go_wp2_with fail
  refine HC.out.mono ?_
  rintro e w1 ⟨rfl, hb1⟩
  go_wp2_with fail
  have HR0 : Hid (RowsAt (w1.alloc (.cells #[.slice none 0 0] 22)) (w1.alloc (.cells #[.slice none 0 0] 22)).heap.size (some ⟨w1.heap.size, 0, none⟩) 1 1 (allN m 0)) :=
    ⟨[.slice none 0 0], (Sl.newest (n := 1) (size := 1) (w := w1) rfl (by rfl) (by decide)).more (by simp), rfl, fun i l hl => by
      cases i with
      | zero => simp [allN] at hl; subst hl; exact ⟨none, 0, rfl, Sl.nil _ _ _⟩
      | succ i => simp [allN] at hl⟩
  have HB0 := Lib.hid (hb1.alloc hb1.size (.cells #[.slice none 0 0] 22))
  clear HC hb1
  generalize World.alloc _ _ = w2 at *
  go_loopg [6, 7] m.length (RaR1 w m)
  case atStart => exact ⟨0, 1, 1, _, rfl, rfl, Nat.zero_le _, rfl, HR0, HB0⟩
  case round =>
    clear HR0 HB0
    obtain ⟨i, no, co, Ao, rfl, rfl, hi, rfl, hra, hbl⟩ := hrel
    by_cases hlt : i < m.length
    · have hno : no ≤ 256 := by
        have h1 := hra.out.len
        rw [allN_len] at h1
        have := Nat.pow_le_pow_right (n := 2) (by decide) (Nat.le_trans (cntN_mono m (Nat.le_of_lt hlt)) HU8.out)
        omega
      have hzw := hbl.out.size
      go_wp2_with fail
      generalize wr = W at *
      go_loopg [8, 9] no (RaR2 W m i no)
      case atStart => exact ⟨0, 0, 0, none, [], rfl, rfl, Nat.zero_le _, rfl, RowsO.nil _ _, Below.refl _ _⟩
      case round =>
        obtain ⟨k, nx, cx, Ax, vs, rfl, rfl, hk, rfl, hro, hbw⟩ := hrel
        by_cases hkt : k < no
        · obtain ⟨rb, ro, o, Ak, ck, rfl, hrb, ho, hrc, hrs⟩ := hra.out.at hkt
          have HO := Lib.hid ho
          have HOL : Hid (o.length = i) := ((mem_allN m i o).1 (List.mem_of_getElem? ho)).1
          have hol : o.length ≤ 1000 := by have := HOL.out; omega
          have HRS := Lib.hid hrs
          obtain ⟨x, hx⟩ : ∃ x, m[i]? = some x := ⟨_, List.getElem?_eq_getElem hlt⟩
          have HX := Lib.hid hx
          have hx3 : x = 1 ∨ x = 2 ∨ x = 3 := by
            have := HMB.out x (List.mem_of_getElem? hx)
            simp [maskB] at this; omega
          have HX3 := Lib.hid hx3
          have HSTEP : Hid (((allN m i).take (k + 1)).flatMap (nextL m[i]?) = ((allN m i).take k).flatMap (nextL m[i]?) ++ partL x o 3) := by
            unfold Hid
            rw [take_snoc ho, List.flatMap_append, partL_done o hx3, hx]; simp
          have HTL : Hid ((((allN m i).take k).flatMap (nextL m[i]?)).length ≤ 512) := by
            have h1 := next_len m[i]? ((allN m i).take k)
            have h2 : ((allN m i).take k).length ≤ k := List.length_take_le _ _
            unfold Hid; omega
          have HRC := Lib.hid hrc
          clear ho hrs hx hx3 hrc
          go_wp2_with fail
          go_loopg [8, 10] 2 (RaR3 W m i k x o)
          case atStart => exact ⟨1, nx, cx, Ax, vs, rfl, rfl, Nat.le_refl _, by omega, rfl, (by unfold Hid; rw [partL_one, List.append_nil]; exact hro.out), hbw⟩
          case round =>
            clear hro hbw
            obtain ⟨p, nx, cx, Ax, vs, rfl, rfl, hp1, hp3, rfl, hro, hbw⟩ := hrel
            have hnx : nx ≤ 600 := by
              have h1 := hro.out.2.1
              rw [List.length_append] at h1
              have := partL_len x o p
              have := HTL.out
              omega
            by_cases hpt : p = 3
            · subst hpt
              have HR5 : Hid (RowsO wr W.heap.size Ax nx cx (((allN m i).take (k + 1)).flatMap (nextL m[i]?)) vs) := by unfold Hid; rw [HSTEP.out]; exact hro.out
              go_wp2_with fail
              go_roundg (no - (k + 1))
              case rel => exact ⟨k + 1, nx, cx, Ax, vs, by go_num, rfl, by omega, rfl, HR5, hbw⟩
              case measure => omega
            · obtain ⟨mb, mo, x', rfl, hmb, hx', hmc⟩ := ((HS.out.below hbl.out hB).below hbw.out (by omega)).at1 hlt
              obtain rfl : x' = x := by rw [HX.out] at hx'; injection hx' with h; exact h.symm
              have hp2 : p ≤ 2 := by omega
              have q2 : decide ((p : Int) ≤ 2) = true := by simp; omega
              clear hx' hpt
              by_cases hyes : (p = 1 ∧ x' ≠ 2) ∨ (p = 2 ∧ x' ≠ 1)
              · have qa : (bits BinOp.and IntKind.i64 x' (p : Int) != 0) = true := by
                  have := HX3.out
                  rcases hyes with ⟨rfl, h⟩ | ⟨rfl, h⟩ <;> rcases this with rfl | rfl | rfl <;> first | rfl | exact absurd rfl h
                have HPT : Hid (((allN m i).take k).flatMap (nextL m[i]?) ++ partL x' o (p + 1) = (((allN m i).take k).flatMap (nextL m[i]?) ++ partL x' o p) ++ [o ++ [(p : Int)]]) := by
                  unfold Hid
                  rw [List.append_assoc]
                  congr 1
                  have := HX3.out
                  rcases hyes with ⟨rfl, h⟩ | ⟨rfl, h⟩ <;> rcases this with rfl | rfl | rfl <;> first | rfl | exact absurd rfl h
                have hrc : wr.cell? ⟨rb, ro + k, none⟩ = some (.slice Ak o.length ck) := (hbw.out.cell (p := ⟨rb, ro + k, none⟩) hrb).trans HRC.out
                have HRS2 := Lib.hid ((HRS.out.below hbw.out (Nat.le_refl _)).more hbw.out.size)
                clear hyes
                have hwz := hbw.out.size
                go_wp2_with (at_builtin; go_must (first
                  | (refine wpList_app rfl _ (.tmp 47) rfl el_int (by rfl) (World.ownsRow_nil _ wr.heap.size _ _) (by rfl) HRS2.out (ints_one o) (by omega) (by omega) (Nat.le_refl _) ?_; intro A1 co1 w4 hown4 hgr4 hat4; simp only [Nat.zero_add, List.nil_append] at hown4 hgr4 ⊢; have HO4 : Hid (IntsO w4 wr.heap.size A1 o.length co1 o) := hown4; have HB4 : Hid (Below wr.heap.size wr w4) := ⟨hgr4.os, hgr4.tape, hgr4.output, hgr4.size, fun i hi => hgr4.block i hi (by simp [Value.ownBlock])⟩; clear hown4 hgr4 hat4)
                  | (refine wpList_app rfl (.tmp 48) (.tmp 50) rfl el_int (by rfl) (HO4.out.alloc _) (by rfl) (Sl.newest (n := 1) (by simp) (by rfl) (by decide)) (by simp [Value.oneCell']) (by omega) (by omega) (by have := HB4.out.size; simp; omega) ?_; intro A2 co2 w5 hown5 hgr5 hat5; have HO5 := Lib.hid hown5; have HB5 : Hid (Below wr.heap.size wr w5) := (HB4.out.alloc HB4.out.size _).trans ⟨hgr5.os, hgr5.tape, hgr5.output, hgr5.size, fun t ht => hgr5.block t (by have := HB4.out.size; simp; omega) (fun e => by have := (HO4.out.lt t e.symm).1; omega)⟩; clear hown5 hgr5 hat5)
                  | (refine wpList_app rfl (.tmp 43) (.tmp 52) rfl el_rows (by rfl) ((hro.out.kept (HB5.out.alloc HB5.out.size (.cells #[.slice A2 (o.length + 1) co2] 22)) (Nat.le_refl _)).1) (by rfl) (Sl.newest (n := 1) (by simp) (by rfl) (by decide)) (by simp [Value.oneCell']) (by omega) (by omega) (by have := HB5.out.size; simp; omega) ?_; intro A3 co3 w6 hown6 hgr6 hat6; have HO6 := Lib.hid hown6; have HG6 := Lib.hid hgr6; have HAT6 := Lib.hid hat6; clear hown6 hgr6 hat6)))
                have HB6 := Lib.hid (HB5.out.alloc HB5.out.size (.cells #[.slice A2 (o.length + 1) co2] 22))
                have HR6 : Hid (RowsO w6 W.heap.size A3 (nx + 1) co3 (((allN m i).take k).flatMap (nextL m[i]?) ++ partL x' o (p + 1)) (vs ++ [.slice A2 (o.length + 1) co2])) := by
                  unfold Hid
                  rw [HPT.out]
                  refine (hro.out.kept HB6.out (Nat.le_refl _)).appL (by simp) HO6.out HG6.out HAT6.out ?_ ?_
                  · have h1 := (Sl.of_own HO5.out)
                    have h2 : Sl (w5.alloc (.cells #[.slice A2 (o.length + 1) co2] 22)) w5.heap.size 1 A2 (o.length + 1) co2 (intsV (o ++ [(p : Int)])) := by rw [intsV_append]; exact h1.alloc (Nat.le_refl _) _
                    exact h2.more (by simp)
                  · intro b off e
                    have h1 := HO5.out.lt b (by rw [e]; rfl)
                    refine ⟨by simp; omega, fun e2 => ?_⟩
                    have := (hro.out.lt b e2.symm).2
                    omega
                have HB7 : Hid (Below W.heap.size W w6) := by
                  have h1 := hbw.out.trans (HB6.out.mono hwz)
                  refine h1.trans ⟨HG6.out.os, HG6.out.tape, HG6.out.output, HG6.out.size, fun t ht => HG6.out.block t (by have := h1.size; omega) (fun e => by have := (hro.out.lt t e.symm).1; omega)⟩
                go_roundg (3 - (p + 1))
                case rel => exact ⟨p + 1, nx + 1, co3, A3, _, by go_num, rfl, by omega, by omega, rfl, HR6, HB7⟩
                case measure => omega
              · have qa : (bits BinOp.and IntKind.i64 x' (p : Int) != 0) = false := by
                  have := HX3.out
                  have : (p = 1 ∧ x' = 2) ∨ (p = 2 ∧ x' = 1) := by omega
                  rcases this with ⟨rfl, rfl⟩ | ⟨rfl, rfl⟩ <;> rfl
                have HPT : Hid (partL x' o (p + 1) = partL x' o p) := by
                  have : (p = 1 ∧ x' = 2) ∨ (p = 2 ∧ x' = 1) := by omega
                  rcases this with ⟨rfl, rfl⟩ | ⟨rfl, rfl⟩ <;> rfl
                clear hyes
                go_wp2_with fail
                go_roundg (3 - (p + 1))
                case rel => exact ⟨p + 1, nx, cx, Ax, vs, by go_num, rfl, by omega, by omega, rfl, (by unfold Hid; rw [HPT.out]; exact hro.out), hbw⟩
                case measure => omega
        · obtain rfl : k = no := by omega
          have hkk : decide (k < k) = false := by simp
          have HR5 : Hid (RowsAt wr wr.heap.size Ax nx cx (allN m (i + 1))) := by
            have := hro.out.read
            rw [List.take_of_length_le (by rw [hra.out.len]; exact Nat.le_refl _)] at this
            exact this
          go_wp2_with fail
          go_roundg (m.length - (i + 1))
          case rel => exact ⟨i + 1, nx, cx, Ax, by go_num, rfl, by omega, rfl, HR5, hbl.out.trans (hbw.out.mono hzw)⟩
          case measure => omega
    · obtain rfl : i = m.length := by omega
      have hii : decide (m.length < m.length) = false := by simp
      go_wp2_with fail
      go_ret2
      exact ⟨.inr ⟨HE.out, Ao, no, co, rfl, hra⟩, hbl⟩
end Go.Proofs.YtdpmfdcackoegaaGreatDoor
