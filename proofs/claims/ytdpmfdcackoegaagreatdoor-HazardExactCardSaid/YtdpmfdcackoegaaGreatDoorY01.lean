import Derived.Test.YtdpmfdcackoegaaGreatDoorZ39
import Derived.Test.YtdpmfdcackoegaaGreatDoorY00
import Derived.Test.YtdpmfdcackoegaaGreatDoorZ41
import Derived.Test.YtdpmfdcackoegaaGreatDoorZ42
import Derived.Test.YtdpmfdcackoegaaGreatDoorZ48
/-
  The reference's All: all agreeing states.
-/
namespace Go.Proofs.YtdpmfdcackoegaaGreatDoor
open Go.RowKit
theorem RowsO.appL {w w' : World} {base n c : Nat} {A : Option Addr} {ls : List (List Int)} {vs : List Value} (h : RowsO w base A n c ls vs) {A1 An : Option Addr} {c1 cn ln : Nat} {l : List Int} (hln : l.length = ln) (hown : w'.ownsRow base 22 1 (.slice A1 (n + 1) c1) (n + 1) (vs ++ [.slice An ln cn])) (hg : w.grownBy w' (Value.slice A n c).ownBlock)
    (hat : (Value.slice A1 (n + 1) c1).ownBlock = (Value.slice A n c).ownBlock ∨ (Value.slice A1 (n + 1) c1).ownBlock = some w.heap.size) (hl : Sl w w.heap.size 1 An ln cn (intsV l)) (hlt : ∀ b off, An = some ⟨b, off, none⟩ → b < w.heap.size ∧ some b ≠ (Value.slice A n c).ownBlock) : RowsO w' base A1 (n + 1) c1 (ls ++ [l]) (vs ++ [.slice An ln cn]) := by
  subst hln
  exact h.app hown hg hat hl hlt
/-- What of one row is laid. -/
def partL (x : Int) (o : List Int) (p : Nat) : List (List Int) := (if 2 ≤ p ∧ x ≠ 2 then [o ++ [1]] else []) ++ (if 3 ≤ p ∧ x ≠ 1 then [o ++ [2]] else [])
theorem partL_one (x : Int) (o : List Int) : partL x o 1 = [] := rfl
theorem partL_done {x : Int} (o : List Int) (h : x = 1 ∨ x = 2 ∨ x = 3) : partL x o 3 = nextL (some x) o := by
  rcases h with rfl | rfl | rfl <;> rfl
theorem partL_len (x : Int) (o : List Int) (p : Nat) : (partL x o p).length ≤ 2 := by
  unfold partL; split <;> split <;> simp
theorem next_len (x : Option Int) (ls : List (List Int)) : (ls.flatMap (nextL x)).length ≤ 2 * ls.length := by
  induction ls with
  | nil => simp
  | cons o ls ih =>
    rw [List.flatMap_cons, List.length_append, List.length_cons]
    have : (nextL x o).length ≤ 2 := by unfold nextL; split <;> simp
    omega
theorem cErr_zero {m : List Int} (h : cErr m = 0) : (∀ x ∈ m, maskB x = true) ∧ cntN m m.length ≤ 8 := by
  unfold cErr at h
  split at h
  · next hv =>
    split at h
    · omega
    · exact ⟨List.all_eq_true.1 hv, by omega⟩
  · omega
def RaR1 (w : World) (m : List Int) (gk : Nat) (ov iv : Value) (wr : World) : Prop := ∃ (i no co : Nat) (Ao : Option Addr), iv = .int .i64 i ∧ ov = .slice Ao no co ∧ i ≤ m.length ∧ gk = m.length - i ∧ Hid (RowsAt wr wr.heap.size Ao no co (allN m i)) ∧ Hid (Below w.heap.size w wr)
def RaR2 (W : World) (m : List Int) (i no gk : Nat) (ov iv : Value) (wr : World) : Prop := ∃ (k nx cx : Nat) (Ax : Option Addr) (vs : List Value), iv = .int .i64 k ∧ ov = .slice Ax nx cx ∧ k ≤ no ∧ gk = no - k ∧ Hid (RowsO wr W.heap.size Ax nx cx (((allN m i).take k).flatMap (nextL m[i]?)) vs) ∧ Hid (Below W.heap.size W wr)
def RaR3 (W : World) (m : List Int) (i k : Nat) (x : Int) (o : List Int) (gk : Nat) (ov pv : Value) (wr : World) : Prop := ∃ (p nx cx : Nat) (Ax : Option Addr) (vs : List Value), pv = .int .i64 p ∧ ov = .slice Ax nx cx ∧ 1 ≤ p ∧ p ≤ 3 ∧ gk = 3 - p ∧ Hid (RowsO wr W.heap.size Ax nx cx (((allN m i).take k).flatMap (nextL m[i]?) ++ partL x o p) vs) ∧ Hid (Below W.heap.size W wr)
set_option maxRecDepth 100000 in
set_option maxHeartbeats 8000000 in
theorem rall_any (A : Option Addr) (c B : Nat) (m : List Int) (w : World) (hs : Sl w B 1 A m.length c (intsV m)) (hB : B ≤ w.heap.size) (hn : m.length ≤ 1000) : Calls Tryz.prog 15 #[.slice A m.length c] w (MAllPost w m) := by
  have HC := Lib.hid (rcount_any A m.length c B m w hs hB (by omega))
  have HS := Lib.hid hs
  clear hs
  by_cases he : cErr m = 0; rotate_left
  · have q : (cErr m != 0) = true := by simpa using he
    have HE := Lib.hid he
    clear he
    go_enter Tryz.func15, Tryz.ntmps15
    go_wp2_with fail
    refine HC.out.mono ?_
    rintro e w1 ⟨rfl, hb1⟩
    go_wp2_with fail
    go_ret2
    exact ⟨.inl ⟨HE.out, rfl⟩, hb1⟩
  have HMB := Lib.hid (cErr_zero he).1
  have HU8 := Lib.hid (cErr_zero he).2
  have HE := Lib.hid he
  rw [he] at HC
  clear he
  generalize cntV m = cv at *
  go_enter Tryz.func15, Tryz.ntmps15
  go_wp2_with fail
  refine HC.out.mono ?_
  rintro e w1 ⟨rfl, hb1⟩
  go_wp2_with fail
  have HR0 : Hid (RowsAt (w1.alloc (.cells #[.slice none 0 0] 22)) (w1.alloc (.cells #[.slice none 0 0] 22)).heap.size (some ⟨w1.heap.size, 0, none⟩) 1 1 (allN m 0)) :=
    ⟨[.slice none 0 0], (Sl.newest (n := 1) (size := 1) (w := w1) rfl (by rfl) (by decide)).more (by simp), rfl, fun i l hl => by
      cases i with
      | zero => simp [allN] at hl; subst hl; exact ⟨none, 0, rfl, Sl.nil _ _ _⟩
      | succ i => simp [allN] at hl⟩
  have HB0 := Lib.hid (hb1.alloc hb1.size (.cells #[.slice none 0 0] 22))
  clear HC hb1
  generalize World.alloc _ _ = w2 at *
  go_loopg [6, 7] m.length (RaR1 w m)
  case atStart => exact ⟨0, 1, 1, _, rfl, rfl, Nat.zero_le _, rfl, HR0, HB0⟩
  case round =>
    clear HR0 HB0
    obtain ⟨i, no, co, Ao, rfl, rfl, hi, rfl, hra, hbl⟩ := hrel
    by_cases hlt : i < m.length
    · have hno : no ≤ 256 := by
        have h1 := hra.out.len
        rw [allN_len] at h1
        have := Nat.pow_le_pow_right (n := 2) (by decide) (Nat.le_trans (cntN_mono m (Nat.le_of_lt hlt)) HU8.out)
        omega
      have hzw := hbl.out.size
      go_wp2_with fail
      generalize wr = W at *
      go_loopg [8, 9] no (RaR2 W m i no)
      case atStart => exact ⟨0, 0, 0, none, [], rfl, rfl, Nat.zero_le _, rfl, RowsO.nil _ _, Below.refl _ _⟩
      case round =>
        obtain ⟨k, nx, cx, Ax, vs, rfl, rfl, hk, rfl, hro, hbw⟩ := hrel
        by_cases hkt : k < no
        · obtain ⟨rb, ro, o, Ak, ck, rfl, hrb, ho, hrc, hrs⟩ := hra.out.at hkt
          have HO := Lib.hid ho
          have HOL : Hid (o.length = i) := ((mem_allN m i o).1 (List.mem_of_getElem? ho)).1
          have hol : o.length ≤ 1000 := by have := HOL.out; omega
          have HRS := Lib.hid hrs
          obtain ⟨x, hx⟩ : ∃ x, m[i]? = some x := ⟨_, List.getElem?_eq_getElem hlt⟩
          have HX := Lib.hid hx
          have hx3 : x = 1 ∨ x = 2 ∨ x = 3 := by
            have := HMB.out x (List.mem_of_getElem? hx)
            simp [maskB] at this; omega
          have HX3 := Lib.hid hx3
          have HSTEP : Hid (((allN m i).take (k + 1)).flatMap (nextL m[i]?) = ((allN m i).take k).flatMap (nextL m[i]?) ++ partL x o 3) := by
            unfold Hid
            rw [take_snoc ho, List.flatMap_append, partL_done o hx3, hx]; simp
          have HTL : Hid ((((allN m i).take k).flatMap (nextL m[i]?)).length ≤ 512) := by
            have h1 := next_len m[i]? ((allN m i).take k)
            have h2 : ((allN m i).take k).length ≤ k := List.length_take_le _ _
            unfold Hid; omega
          have HRC := Lib.hid hrc
          clear ho hrs hx hx3 hrc
          go_wp2_with fail
          go_loopg [8, 10] 2 (RaR3 W m i k x o)
          case atStart => exact ⟨1, nx, cx, Ax, vs, rfl, rfl, Nat.le_refl _, by omega, rfl, (by unfold Hid; rw [partL_one, List.append_nil]; exact hro.out), hbw⟩
          case round =>
            clear hro hbw
            obtain ⟨p, nx, cx, Ax, vs, rfl, rfl, hp1, hp3, rfl, hro, hbw⟩ := hrel
            have hnx : nx ≤ 600 := by
              have h1 := hro.out.2.1
              rw [List.length_append] at h1
              have := partL_len x o p
              have := HTL.out
              omega
            by_cases hpt : p = 3
            · subst hpt
              have HR5 : Hid (RowsO wr W.heap.size Ax nx cx (((allN m i).take (k + 1)).flatMap (nextL m[i]?)) vs) := by unfold Hid; rw [HSTEP.out]; exact hro.out
              go_wp2_with fail
              go_roundg (no - (k + 1))
              case rel => exact ⟨k + 1, nx, cx, Ax, vs, by go_num, rfl, by omega, rfl, HR5, hbw⟩
              case measure => omega
            · obtain ⟨mb, mo, x', rfl, hmb, hx', hmc⟩ := ((HS.out.below hbl.out hB).below hbw.out (by omega)).at1 hlt
              obtain rfl : x' = x := by rw [HX.out] at hx'; injection hx' with h; exact h.symm
              have hp2 : p ≤ 2 := by omega
              have q2 : decide ((p : Int) ≤ 2) = true := by simp; omega
              clear hx' hpt
              by_cases hyes : (p = 1 ∧ x' ≠ 2) ∨ (p = 2 ∧ x' ≠ 1)
              · have qa : (bits BinOp.and IntKind.i64 x' (p : Int) != 0) = true := by
                  have := HX3.out
                  rcases hyes with ⟨rfl, h⟩ | ⟨rfl, h⟩ <;> rcases this with rfl | rfl | rfl <;> first | rfl | exact absurd rfl h
                have HPT : Hid (((allN m i).take k).flatMap (nextL m[i]?) ++ partL x' o (p + 1) = (((allN m i).take k).flatMap (nextL m[i]?) ++ partL x' o p) ++ [o ++ [(p : Int)]]) := by
                  unfold Hid
                  rw [List.append_assoc]
                  congr 1
                  have := HX3.out
                  rcases hyes with ⟨rfl, h⟩ | ⟨rfl, h⟩ <;> rcases this with rfl | rfl | rfl <;> first | rfl | exact absurd rfl h
                have hrc : wr.cell? ⟨rb, ro + k, none⟩ = some (.slice Ak o.length ck) := (hbw.out.cell (p := ⟨rb, ro + k, none⟩) hrb).trans HRC.out
                have HRS2 := Lib.hid ((HRS.out.below hbw.out (Nat.le_refl _)).more hbw.out.size)
                clear hyes
                have hwz := hbw.out.size
                go_wp2_with (at_builtin; go_must (first
                  | (refine wpList_app rfl _ (.tmp 47) rfl el_int (by rfl) (World.ownsRow_nil _ wr.heap.size _ _) (by rfl) HRS2.out (ints_one o) (by omega) (by omega) (Nat.le_refl _) ?_; intro A1 co1 w4 hown4 hgr4 hat4; simp only [Nat.zero_add, List.nil_append] at hown4 hgr4 ⊢; have HO4 : Hid (IntsO w4 wr.heap.size A1 o.length co1 o) := hown4; have HB4 : Hid (Below wr.heap.size wr w4) := ⟨hgr4.os, hgr4.tape, hgr4.output, hgr4.size, fun i hi => hgr4.block i hi (by simp [Value.ownBlock])⟩; clear hown4 hgr4 hat4)
                  | (refine wpList_app rfl (.tmp 48) (.tmp 50) rfl el_int (by rfl) (HO4.out.alloc _) (by rfl) (Sl.newest (n := 1) (by simp) (by rfl) (by decide)) (by simp [Value.oneCell']) (by omega) (by omega) (by have := HB4.out.size; simp; omega) ?_; intro A2 co2 w5 hown5 hgr5 hat5; have HO5 := Lib.hid hown5; have HB5 : Hid (Below wr.heap.size wr w5) := (HB4.out.alloc HB4.out.size _).trans ⟨hgr5.os, hgr5.tape, hgr5.output, hgr5.size, fun t ht => hgr5.block t (by have := HB4.out.size; simp; omega) (fun e => by have := (HO4.out.lt t e.symm).1; omega)⟩; clear hown5 hgr5 hat5)
                  | (refine wpList_app rfl (.tmp 43) (.tmp 52) rfl el_rows (by rfl) ((hro.out.kept (HB5.out.alloc HB5.out.size (.cells #[.slice A2 (o.length + 1) co2] 22)) (Nat.le_refl _)).1) (by rfl) (Sl.newest (n := 1) (by simp) (by rfl) (by decide)) (by simp [Value.oneCell']) (by omega) (by omega) (by have := HB5.out.size; simp; omega) ?_; intro A3 co3 w6 hown6 hgr6 hat6; have HO6 := Lib.hid hown6; have HG6 := Lib.hid hgr6; have HAT6 := Lib.hid hat6; clear hown6 hgr6 hat6)))
                have HB6 := Lib.hid (HB5.out.alloc HB5.out.size (.cells #[.slice A2 (o.length + 1) co2] 22))
                have HR6 : Hid (RowsO w6 W.heap.size A3 (nx + 1) co3 (((allN m i).take k).flatMap (nextL m[i]?) ++ partL x' o (p + 1)) (vs ++ [.slice A2 (o.length + 1) co2])) := by
                  unfold Hid
                  rw [HPT.out]
                  refine (hro.out.kept HB6.out (Nat.le_refl _)).appL (by simp) HO6.out HG6.out HAT6.out ?_ ?_
                  · have h1 := (Sl.of_own HO5.out)
                    have h2 : Sl (w5.alloc (.cells #[.slice A2 (o.length + 1) co2] 22)) w5.heap.size 1 A2 (o.length + 1) co2 (intsV (o ++ [(p : Int)])) := by rw [intsV_append]; exact h1.alloc (Nat.le_refl _) _
                    exact h2.more (by simp)
                  · intro b off e
                    have h1 := HO5.out.lt b (by rw [e]; rfl)
                    refine ⟨by simp; omega, fun e2 => ?_⟩
                    have := (hro.out.lt b e2.symm).2
                    omega
                have HB7 : Hid (Below W.heap.size W w6) := by
                  have h1 := hbw.out.trans (HB6.out.mono hwz)
                  refine h1.trans ⟨HG6.out.os, HG6.out.tape, HG6.out.output, HG6.out.size, fun t ht => HG6.out.block t (by have := h1.size; omega) (fun e => by have := (hro.out.lt t e.symm).1; omega)⟩
                go_roundg (3 - (p + 1))
                case rel => exact ⟨p + 1, nx + 1, co3, A3, _, by go_num, rfl, by omega, by omega, rfl, HR6, HB7⟩
                case measure => omega
              · have qa : (bits BinOp.and IntKind.i64 x' (p : Int) != 0) = false := by
                  have := HX3.out
                  have : (p = 1 ∧ x' = 2) ∨ (p = 2 ∧ x' = 1) := by omega
                  rcases this with ⟨rfl, rfl⟩ | ⟨rfl, rfl⟩ <;> rfl
                have HPT : Hid (partL x' o (p + 1) = partL x' o p) := by
                  have : (p = 1 ∧ x' = 2) ∨ (p = 2 ∧ x' = 1) := by omega
                  rcases this with ⟨rfl, rfl⟩ | ⟨rfl, rfl⟩ <;> rfl
                clear hyes
                go_wp2_with fail
                go_roundg (3 - (p + 1))
                case rel => exact ⟨p + 1, nx, cx, Ax, vs, by go_num, rfl, by omega, by omega, rfl, (by unfold Hid; rw [HPT.out]; exact hro.out), hbw⟩
                case measure => omega
        · obtain rfl : k = no := by omega
          have hkk : decide (k < k) = false := by simp
          have HR5 : Hid (RowsAt wr wr.heap.size Ax nx cx (allN m (i + 1))) := by
            have := hro.out.read
            rw [List.take_of_length_le (by rw [hra.out.len]; exact Nat.le_refl _)] at this
            exact this
          go_wp2_with fail
          go_roundg (m.length - (i + 1))
          case rel => exact ⟨i + 1, nx, cx, Ax, by go_num, rfl, by omega, rfl, HR5, hbl.out.trans (hbw.out.mono hzw)⟩
          case measure => omega
    · obtain rfl : i = m.length := by omega
      have hii : decide (m.length < m.length) = false := by simp
      go_wp2_with fail
      go_ret2
      exact ⟨.inr ⟨HE.out, Ao, no, co, rfl, hra⟩, hbl⟩
end Go.Proofs.YtdpmfdcackoegaaGreatDoor
/-
  HazardExact: the hazards over masks are those of some agreeing state.
-/
namespace Go.Proofs.YtdpmfdcackoegaaGreatDoor
open Go.RowKit
def cntH (hz : List Int → List Int) (l : List (List Int)) (h : Int) : Nat := (l.filter fun s => hasB (hz s) h).length
theorem cntH_snoc (hz : List Int → List Int) (l : List (List Int)) (s : List Int) (h : Int) : cntH hz (l ++ [s]) h = cntH hz l h + if h ∈ hz s then 1 else 0 := by
  unfold cntH
  rw [List.filter_append, List.length_append]
  congr 1
  by_cases hm : h ∈ hz s
  · rw [if_pos hm, List.filter_cons, if_pos ((hasB_iff _ _).2 hm)]; rfl
  · rw [if_neg hm, List.filter_cons, if_neg (by rw [(hasB_not _ _).2 hm]; simp)]; rfl
theorem cntH_pos (hz : List Int → List Int) (l : List (List Int)) (h : Int) : 0 < cntH hz l h ↔ ∃ s ∈ l, h ∈ hz s := by
  unfold cntH
  rw [List.length_pos_iff_exists_mem]
  simp only [List.mem_filter, hasB_iff]
theorem cntH_le (hz : List Int → List Int) (l : List (List Int)) (h : Int) : cntH hz l h ≤ l.length := List.length_filter_le _ _
theorem cntH_all (hz : List Int → List Int) (l : List (List Int)) (h : Int) : cntH hz l h = l.length ↔ ∀ s ∈ l, h ∈ hz s := by
  unfold cntH
  rw [List.length_filter_eq_length_iff]
  simp only [hasB_iff]
theorem hzL_nodup (f1 f2 f3 f4 f5 f6 f7 : Bool) : (hzL f1 f2 f3 f4 f5 f6 f7).Nodup := by
  cases f1 <;> cases f2 <;> cases f3 <;> cases f4 <;> cases f5 <;> cases f6 <;> cases f7 <;> decide
theorem hzAt_nodup (nn : Nat) (ns : List Nd) (ds : List Dv) (s : List Int) (d : Nat) (p co : Int) (ls : List Lk) (pr : List Int) (x : Dv) : (hzAt nn ns ds s d p co ls pr x).Nodup := by
  unfold hzAt; split <;> exact hzL_nodup _ _ _ _ _ _ _
def CntOk (hz : List Int → List Int) (l : List (List Int)) (s : List Int) (j : Nat) (cnt : List Int) : Prop := cnt.length = 10 ∧ ∀ h : Nat, h < 10 → cnt[h]? = some ((cntH hz l h + (if (h : Int) ∈ (hz s).take j then 1 else 0) : Nat) : Int)
section
variable {hz : List Int → List Int} {l : List (List Int)} {s : List Int} {j t : Nat} {cnt : List Int}
theorem CntOk.start : CntOk hz [] s 0 (List.replicate 10 0) := ⟨by simp, fun h hh => by rw [List.getElem?_replicate, if_pos hh]; simp [cntH]⟩
theorem CntOk.step (h : CntOk hz l s j cnt) (hx : (hz s)[j]? = some (t : Int)) : CntOk hz l s (j + 1) (cnt.set t (((cntH hz l t : Nat) : Int) + 1)) := by
  refine ⟨by rw [List.length_set]; exact h.1, fun k hk => ?_⟩
  rw [List.getElem?_set, take_snoc hx]
  by_cases e : t = k
  · subst e
    rw [if_pos rfl, if_pos (by rw [h.1]; exact hk), if_pos (by simp)]
    simp
  · rw [if_neg e, h.2 k hk]
    have : ((k : Int) ∈ (hz s).take j ++ [(t : Int)]) ↔ (k : Int) ∈ (hz s).take j := by
      rw [List.mem_append, List.mem_singleton]
      constructor
      · rintro (h1 | h1)
        · exact h1
        · omega
      · exact .inl
    simp only [this]
theorem CntOk.at (h : CntOk hz l s j cnt) (hx : (hz s)[j]? = some (t : Int)) (hn : (hz s).Nodup) (ht : t < 10) : cnt[t]? = some ((cntH hz l t : Nat) : Int) := by
  rw [h.2 t ht, if_neg (fun hm => ?_)]
  · simp
  · obtain ⟨i, hi, e⟩ := List.mem_take_iff_getElem.1 hm
    obtain ⟨hj, e2⟩ := List.getElem?_eq_some_iff.1 hx
    exact List.pairwise_iff_getElem.1 hn i j (by omega) hj (by omega) (by rw [e, e2])
theorem CntOk.done (h : CntOk hz l s j cnt) (hj : (hz s).length = j) (s2 : List Int) : CntOk hz (l ++ [s]) s2 0 cnt := by
  refine ⟨h.1, fun k hk => ?_⟩
  rw [h.2 k hk, List.take_of_length_le (by omega), cntH_snoc]
  simp
end
section
variable {ns : List Nd} {ds : List Dv} {m am : List Int} {d : Nat} {p co : Int} {ls : List Lk} {pr : List Int} {x : Dv}
theorem seven_iff {nn : Nat} {s : List Int} : (7 : Int) ∈ hzAt nn ns ds s d p co ls pr x ↔ s.getD d 0 = p := by
  unfold hzAt
  by_cases e : s.getD d 0 = p
  · rw [if_pos e, hzL_mem]; exact ⟨fun _ => e, fun _ => by simp⟩
  · rw [if_neg e, hzL_mem]; exact ⟨fun h => by simp at h, fun h => absurd h e⟩
theorem exa_some (h : MayL ns ds m d p co ls pr x am) {i : Int} (h7 : i ≠ 7) : hasB am i = decide (0 < cntH (fun s => hzAt ns.length ns ds s d p co ls pr x) (allOf m) i) := by
  rw [Bool.eq_iff_iff, hasB_iff, decide_eq_true_iff, cntH_pos, h.2.2]
  unfold MayP
  simp [h7]
theorem exa_all (h : MayL ns ds m d p co ls pr x am) (hd : d < m.length) (hp : p = 1 ∨ p = 2) : hasB am 7 = decide (cntH (fun s => hzAt ns.length ns ds s d p co ls pr x) (allOf m) 7 = (allOf m).length) := by
  rw [Bool.eq_iff_iff, hasB_iff, decide_eq_true_iff, cntH_all, h.2.2]
  unfold MayP
  simp only [Int.toNat_natCast, seven_iff]
  have hmd : m[d]? = some (m.getD d 0) := by rw [List.getD_eq_getElem?_getD, List.getElem?_eq_getElem hd]; rfl
  constructor
  · rintro ⟨s, hs, h1, h2⟩ t ht
    have h3 : m.getD d 0 = p := by rcases h2 with h2 | h2; exact absurd rfl h2; exact h2
    obtain ⟨_, h4⟩ := (mem_allN m m.length t).1 ht
    have h5 := (h4 d hd).2 (fun e => by rw [hmd] at e; injection e with e; omega)
    rw [List.getD_eq_getElem?_getD, h5, ← h3]; rfl
  · intro hall
    have hne : 0 < (allOf m).length := by unfold allOf; rw [allN_len]; exact Nat.pos_of_ne_zero (by simp)
    obtain ⟨s, hs⟩ : ∃ s, s ∈ allOf m := ⟨_, List.getElem_mem hne⟩
    refine ⟨s, hs, hall s hs, .inr ?_⟩
    obtain ⟨h3, h4⟩ := (mem_allN m m.length s).1 hs
    by_cases h5 : m[d]? = some 3
    · exfalso
      have hs2 : s.set d (3 - p) ∈ allOf m := by
        refine (mem_allN m m.length _).2 ⟨by rw [List.length_set]; exact h3, fun e he => ?_⟩
        rw [List.getElem?_set]
        by_cases hde : d = e
        · subst hde
          rw [if_pos rfl, if_pos (by omega)]
          exact ⟨fun _ => by rcases hp with rfl | rfl; exact .inr rfl; exact .inl rfl, fun hh => absurd h5 hh⟩
        · rw [if_neg hde]; exact h4 e he
      have := hall _ hs2
      rw [List.getD_eq_getElem?_getD, List.getElem?_set_self (by omega)] at this
      simp at this
      omega
    · have h6 := (h4 d hd).2 h5
      have := hall s hs
      rw [List.getD_eq_getElem?_getD, h6] at this
      exact this
end
def ExR1 (M : World → Prop) (H cb : Nat) (hz : List Int → List Int) (rows : List (List Int)) (n gk : Nat) (iv : Value) (wr : World) : Prop := ∃ (k : Nat) (cnt : List Int), iv = .int .i64 k ∧ k ≤ n ∧ gk = n - k ∧ Hid (M wr) ∧ Hid (IntsO wr H (some ⟨cb, 0, none⟩) 10 10 cnt) ∧ Hid (∀ s2, CntOk hz (rows.take k) s2 0 cnt)
def ExR2 (M : World → Prop) (H cb Bk : Nat) (AH : Option Addr) (cH : Nat) (hz : List Int → List Int) (l : List (List Int)) (s : List Int) (n gk : Nat) (iv : Value) (wr : World) : Prop := ∃ (j : Nat) (cnt : List Int), iv = .int .i64 j ∧ j ≤ n ∧ gk = n - j ∧ Hid (M wr) ∧ Hid (IntsO wr H (some ⟨cb, 0, none⟩) 10 10 cnt) ∧ Hid (IntsO wr Bk AH n cH (hz s)) ∧ Hid (CntOk hz l s j cnt)
def ExR3 (M : World → Prop) (n gk : Nat) (iv : Value) (wr : World) : Prop := ∃ i : Nat, iv = .int .i64 i ∧ 1 ≤ i ∧ i ≤ n ∧ gk = n - i ∧ Hid (M wr)
set_option maxRecDepth 100000 in
set_option maxHeartbeats 8000000 in
theorem walk_HazardExact (w : World) (hl : Laid w) (A : Option Addr) (n c : Nat) (zs : List Int) (hs : Sl w w.heap.size 1 A n c (intsV zs)) (_hz : ∀ z ∈ zs, (Lit.int .i64 z).wf = true) :
    Calls Tryz.prog 6 #[.slice A n c] w fun e w' => e = .returned (.bool true) ∧ Below w.heap.size w w' := by
  have hnm := hs.le
  have HL := Lib.hid hl; have HS := Lib.hid hs
  clear hl hs _hz
  have HF := Lib.hid (few_any A n c w (by omega))
  rcases hf : decide (n ≤ 400) with _ | _
  · rw [hf] at HF
    clear hf
    go_enter Tryz.func6, Tryz.ntmps6
    go_wp2_with fail
    refine HF.out.mono ?_
    rintro e w1 ⟨rfl, rfl⟩
    go_wp2_with fail
    refine (awake_any w HL.out).mono ?_
    rintro e w1 ⟨rfl, hb⟩
    go_wp2_with fail
    go_ret
    exact ⟨rfl, hb⟩
  rw [hf] at HF
  clear hf
  go_enter Tryz.func6, Tryz.ntmps6
  go_wp2_with fail
  refine HF.out.mono ?_
  rintro e w1 ⟨rfl, rfl⟩
  go_wp2_with fail
  refine (new_any A n c w.heap.size zs w HS.out (Nat.le_refl _)).mono ?_
  rintro e w1 ⟨rfl, hd1, hb1, hs1⟩
  go_wp2_with fail
  refine (mknet_any w.heap.size 6 9 w1 hd1.out (by decide) (by decide)).mono ?_
  rintro e w2 ⟨An, nn, cn, ns, Ad, nd, cd, ds, rfl, hd2, hg2, hrn, hrd, hmade⟩
  have HMK := LwN.mk0 HL.out hb1.out hs1.out hd2.out hg2.out hrn.out hrd.out hmade.out
  have HNN := Lib.hid HMK.2.1; have HND := Lib.hid HMK.2.2
  have HN3 := Lib.hid HMK.1
  have HMA := Lib.hid hmade.out
  have hnd : nd ≤ 9 := by have := hmade.out.dm; rw [HND.out] at this; omega
  have hnd1 : 1 ≤ nd := by have := hmade.out.d1; rw [HND.out] at this; omega
  have hnn : nn ≤ 6 := by have := hmade.out.nm; rw [HNN.out] at this; omega
  have HNM := Lib.hid HMA.out.names
  have HCK := Lib.hid (HMA.out.check (by decide) (by decide))
  clear HMK hd1 hb1 hs1 hd2 hg2 hrn hrd hmade HS HF
  go_wp2_with fail
  generalize World.alloc _ _ = w3 at *
  obtain ⟨nb, hnb⟩ : ∃ nb, nb = w2.heap.size := ⟨_, rfl⟩
  rw [← hnb] at HN3 ⊢
  clear hnb
  refine (mkmasks_any w.heap.size An Ad nn cn nd cd 5 ds w3 HN3.out.dk HN3.out.hd (by omega) (by decide)).mono ?_
  rintro e w5 ⟨As, cs, m, rfl, hd5, hg5, hO5, hmb, hcn⟩
  have HN5 := Lib.hid (HN3.out.grown HL.out hg5.out hd5.out)
  have HX5 : Hid (SlX w5 w.heap.size 1 As nd cs (intsV m)) := SlX.of_own hO5.out (by have := HN3.out.bl.size; have := HN3.out.bx.lt; have := HN3.out.ge; omega)
  have HLS : Hid (m.length = nd) := hO5.out.len
  clear hd5 hg5 hO5 HN3
  have k0 : w5.cell? ⟨nb, 0, none⟩ = some (.slice An nn cn) := HN5.out.bx.cell 0
  have k1 : w5.cell? ⟨nb, 1, none⟩ = some (.slice Ad nd cd) := HN5.out.bx.cell 1
  go_wp2_with fail
  clear k0 k1
  refine (mkground_any w.heap.size An Ad none nn cn nd cd 0 0 w5 HN5.out.dk (by omega)).mono ?_
  rintro e w6 ⟨co, Ap, np, cp, pr, rfl, hco, hd6, hg6, hO6, -⟩
  have HN6 : Hid (LwN w nb An nn cn ns Ad nd cd ds (w6.alloc (.cells #[.int .i64 co, .slice none 0 0, .slice Ap np cp] 51))) := (HN5.out.grown HL.out hg6.out hd6.out).later ((Below.refl _ _).alloc (Nat.le_refl _) _)
  have HX6 := Lib.hid ((HX5.out.grown hg6.out).alloc (.cells #[.int .i64 co, .slice none 0 0, .slice Ap np cp] 51))
  have HP6 : Hid (SlX (w6.alloc (.cells #[.int .i64 co, .slice none 0 0, .slice Ap np cp] 51)) w.heap.size 1 Ap np cp (intsV pr)) := (SlX.of_own hO6.out HN5.out.dk.lt).alloc _
  have HG6 := Lib.hid (Blk.new w6 51 #[.int .i64 co, .slice none 0 0, .slice Ap np cp])
  have hgb : w.heap.size < w6.heap.size := hd6.out.lt
  clear hd6 hg6 hO6 HN5 HX5
  go_upto_region 7 with (fail)
  generalize World.alloc w6 _ = W6 at *
  obtain ⟨gb, hgbe⟩ : ∃ x, x = w6.heap.size := ⟨_, rfl⟩
  rw [← hgbe] at HG6 hgb ⊢
  clear hgbe
  have k0 : W6.cell? ⟨nb, 0, none⟩ = some (.slice An nn cn) := HN6.out.bx.cell 0
  have k1 : W6.cell? ⟨nb, 1, none⟩ = some (.slice Ad nd cd) := HN6.out.bx.cell 1
  go_wp2_with fail
  clear k0 k1
  refine (mkop_any w.heap.size An Ad nn cn nd cd W6 HN6.out.dk (by omega) (by omega)).mono ?_
  rintro e w7 ⟨d, p, rfl, hdn, hp, hd7, hg7⟩
  have hob0 : w.heap.size < w7.heap.size := hd7.out.lt
  have HC7 : Hid ((LwN w nb An nn cn ns Ad nd cd ds (w7.alloc (.cells #[.int .i64 d, .int .i64 p] 48)) ∧ SlX (w7.alloc (.cells #[.int .i64 d, .int .i64 p] 48)) w.heap.size 1 As nd cs (intsV m)) ∧ Blk (w7.alloc (.cells #[.int .i64 d, .int .i64 p] 48)) gb 51 #[.int .i64 co, .slice none 0 0, .slice Ap np cp] ∧ SlX (w7.alloc (.cells #[.int .i64 d, .int .i64 p] 48)) w.heap.size 1 Ap np cp (intsV pr) ∧ Blk (w7.alloc (.cells #[.int .i64 d, .int .i64 p] 48)) w7.heap.size 48 #[.int .i64 d, .int .i64 p]) :=
    ⟨⟨(HN6.out.grown HL.out hg7.out hd7.out).later ((Below.refl _ _).alloc (Nat.le_refl _) _), (HX6.out.grown hg7.out).alloc _⟩, (HG6.out.grown hg7.out (fun e => by injection e; omega)).alloc _, (HP6.out.grown hg7.out).alloc _, Blk.new _ _ _⟩
  clear hd7 hg7 HN6 HX6 HG6 HP6
  go_upto_region 8 with (fail)
  generalize World.alloc w7 _ = W7 at *
  obtain ⟨ob, hobe⟩ : ∃ x, x = w7.heap.size := ⟨_, rfl⟩
  rw [← hobe] at HC7 hob0 ⊢
  clear hobe
  obtain ⟨M, hM⟩ : ∃ M : World → Prop, M = fun W' => (LwN w nb An nn cn ns Ad nd cd ds W' ∧ SlX W' w.heap.size 1 As nd cs (intsV m)) ∧ Blk W' gb 51 #[.int .i64 co, .slice none 0 0, .slice Ap np cp] ∧ SlX W' w.heap.size 1 Ap np cp (intsV pr) ∧ Blk W' ob 48 #[.int .i64 d, .int .i64 p] := ⟨_, rfl⟩
  have HKM : Hid (Keep w.heap.size M) := by unfold Hid; rw [hM]; exact ((Keep.lwn HL.out).and Keep.slx).and ((Keep.blk (by omega)).and (Keep.slx.and (Keep.blk (by omega))))
  have HAM : Hid (∀ W', M W' → (LwN w nb An nn cn ns Ad nd cd ds W' ∧ SlX W' w.heap.size 1 As nd cs (intsV m)) ∧ Blk W' gb 51 #[.int .i64 co, .slice none 0 0, .slice Ap np cp] ∧ SlX W' w.heap.size 1 Ap np cp (intsV pr) ∧ Blk W' ob 48 #[.int .i64 d, .int .i64 p]) := fun W' h => by rw [hM] at h; exact h
  have HM7 : Hid (M W7) := by unfold Hid; rw [hM]; exact HC7.out
  have HZ : Hid (∀ W', M W' → HzMem W' An Ad As none Ap nn cn nd cd nd cs 0 0 np cp ns ds m [] pr) := fun W' h => ⟨(HAM.out _ h).1.1.hn.1, (HAM.out _ h).1.1.hd.1, (HAM.out _ h).1.2.1, Sl.nil _ _ _, (HAM.out _ h).2.2.1.1, (HAM.out _ h).1.1.la, HNM.out.1, HNM.out.2⟩
  have HCL : Hid (∀ W', M W' → ((W'.cell? ⟨nb, 0, none⟩ = some (.slice An nn cn) ∧ W'.cell? ⟨nb, 1, none⟩ = some (.slice Ad nd cd)) ∧ (W'.cell? ⟨ob, 0, none⟩ = some (.int .i64 d) ∧ W'.cell? ⟨ob, 1, none⟩ = some (.int .i64 p)) ∧ W'.cell? ⟨gb, 0, none⟩ = some (.int .i64 co) ∧ W'.cell? ⟨gb, 1, none⟩ = some (.slice none 0 0) ∧ W'.cell? ⟨gb, 2, none⟩ = some (.slice Ap np cp))) := fun W' h =>
    ⟨⟨(HAM.out _ h).1.1.bx.cell 0, (HAM.out _ h).1.1.bx.cell 1⟩, ⟨(HAM.out _ h).2.2.2.cell 0, (HAM.out _ h).2.2.2.cell 1⟩, (HAM.out _ h).2.1.cell 0, (HAM.out _ h).2.1.cell 1, (HAM.out _ h).2.1.cell 2⟩
  have HALL : Hid (m.all maskB = true) := by unfold Hid; rw [List.all_eq_true]; exact hmb.out
  have HMKE : Hid (maskErr ns ds m = 0) := by unfold Hid maskErr; rw [if_neg (by rw [HCK.out]; simp), if_neg (by rw [HLS.out, HND.out]; simp), if_pos hmb.out]
  have HHZE : Hid (hzErr ds.length d p co = 0) := by
    unfold Hid hzErr
    rw [HND.out, if_neg (by omega), if_neg (by omega), if_neg (by omega), if_neg (by omega), if_neg (by omega)]
  have HCE : Hid (cErr m = 0) := by unfold Hid cErr; rw [if_pos HALL.out, if_neg (by have := hcn.out; omega)]
  have HST : Hid (stsErr ns ds m d p co = 0) := by unfold Hid stsErr; rw [if_pos HMKE.out, if_pos HHZE.out]; exact HCE.out
  clear hM HC7 hmb hcn
  obtain ⟨⟨k0, k1⟩, ⟨o0, o1⟩, g0, g1, g2⟩ := HCL.out _ HM7.out
  go_wp2_with fail
  clear k0 k1 o0 o1 g0 g1 g2
  refine (May_any An Ad As none Ap nn cn nd cd nd cs 0 0 np cp ns ds m [] pr d p co W7 (HZ.out _ HM7.out)).mono ?_
  rintro e w8 ⟨⟨h1, _⟩ | ⟨_, AM, kM, cM, x, am, hx, rfl, hOM, hML⟩, hb8⟩
  · exact absurd HST.out h1
  simp only [Int.toNat_natCast] at hx
  have HXX := Lib.hid hx
  have HM8 := Lib.hid (HKM.out.later HM7.out hb8.out)
  have HSM := Lib.hid hOM.out.sl
  obtain ⟨hz, hhz⟩ : ∃ f : List Int → List Int, f = fun s => hzAt ns.length ns ds s d p co [] pr x := ⟨_, rfl⟩
  have HHZ := Lib.hid hhz
  have HEX : Hid (∀ i : Int, i ≠ 7 → hasB am i = decide (0 < cntH hz (allOf m) i)) := fun i h7 => by rw [hhz]; exact exa_some hML.out h7
  have HEA : Hid (hasB am 7 = decide (cntH hz (allOf m) 7 = (allOf m).length)) := by unfold Hid; rw [hhz]; exact exa_all hML.out (by rw [HLS.out]; exact hdn) hp
  have HNO : Hid (∀ s, (hz s).Nodup ∧ (hz s).length ≤ 7 ∧ ∀ h ∈ hz s, 1 ≤ h ∧ h ≤ 7) := fun s => by rw [hhz]; exact ⟨hzAt_nodup _ _ _ _ _ _ _ _ _ _, hzAt_len _ _ _ _ _ _ _ _ _ _, fun h hh => hzAt_range hh⟩
  clear hx hb8 hOM hML HM7 hhz
  have hnd1000 : m.length ≤ 1000 := by have := HLS.out; omega
  go_wp2_with fail
  have HRA := Lib.hid (rall_any As cs w8.heap.size m w8 (by rw [HLS.out]; exact (HAM.out _ HM8.out).1.2.1) (Nat.le_refl _) hnd1000)
  rw [HLS.out] at HRA
  refine HRA.out.mono ?_
  rintro e w9 ⟨⟨h1, _⟩ | ⟨_, AR, P, cR, rfl, hR⟩, hb9⟩
  · exact absurd HCE.out h1
  have HM9 := Lib.hid (HKM.out.later HM8.out hb9.out)
  have HSM9 := Lib.hid ((HSM.out.below hb9.out (Nat.le_refl _)).more hb9.out.size)
  have hP : P ≤ 256 := by have := allOf_len HCE.out; have := hR.out.len; omega
  have HPL : Hid ((allOf m).length = P) := hR.out.len
  have hRl := hR.out.le
  have hmk : (Instr.makeSlice 22 (.int .i64 10) (.int .i64 10)).run Tryz.prog w9 = _ := run_mk_int 10 (by decide) w9
  clear HRA hb9 HM8 HSM
  have HO10 := Lib.hid (ints_new (w := w9) (base := w9.heap.size) (n := 10) (Nat.le_refl _) (by decide))
  have HB10 : Hid (Below w9.heap.size w9 (w9.alloc (.cells (intsV (List.replicate 10 0)).toArray 3))) := (Below.refl _ _).alloc (Nat.le_refl _) _
  go_wp2_with fail
  clear hmk
  have HAB : Hid (∀ W', Below w9.heap.size w9 W' → M W') := fun W' hb => HKM.out.later HM9.out hb
  have hbw : Hid (Below w.heap.size w w9) := (HAM.out _ HM9.out).1.1.bl
  simp only [show List.replicate 10 (0 : Int) = [0, 0, 0, 0, 0, 0, 0, 0, 0, 0] from rfl] at HO10 HB10
  generalize World.alloc w9 _ = W10 at *
  obtain ⟨cb, hcb⟩ : ∃ y, y = w9.heap.size := ⟨_, rfl⟩
  rw [← hcb] at HO10 ⊢
  have HCBG := Lib.hid hcb
  clear hcb
  have hP0 : 0 < P := by rw [← HPL.out]; unfold allOf; rw [allN_len]; exact Nat.pos_of_ne_zero (by simp)
  rw [HPL.out] at HEA
  go_wp2_with fail
  go_loopg [59] P (ExR1 (fun W' => Below w9.heap.size w9 W') cb cb hz (allOf m) P)
  case atStart => exact ⟨0, [0, 0, 0, 0, 0, 0, 0, 0, 0, 0], rfl, Nat.zero_le _, rfl, HB10, HO10, fun s2 => CntOk.start⟩
  case round =>
    clear HO10 HB10
    obtain ⟨kk, cnt, rfl, hkk, rfl, hb, hO, hcn⟩ := hrel
    have HMr := Lib.hid (HAB.out _ hb.out)
    by_cases hlt : kk < P
    · obtain ⟨br, ofr, s, As2, cs2, rfl, hbr, hs, hcr, hsr⟩ := (hR.out.below hb.out (Nat.le_refl _)).at hlt
      have HS := Lib.hid hs
      have HSR := Lib.hid (hsr.more hb.out.size)
      have HIE : Hid (inErr ns ds s d p co = 0) := by unfold Hid inErr; rw [if_pos (state_of_mask HMKE.out (List.mem_of_getElem? hs))]; exact HHZE.out
      have HZr := Lib.hid (HZ.out _ HMr.out)
      obtain ⟨⟨k0, k1⟩, ⟨o0, o1⟩, g0, g1, g2⟩ := HCL.out _ HMr.out
      clear hs hsr
      go_upto_region 14 with (fail)
      clear hcr
      go_wp2_with fail
      clear k0 k1 o0 o1 g0 g1 g2
      refine (In_any An Ad As2 none Ap nn cn nd cd s.length cs2 0 0 np cp ns ds s [] pr d p co wr ⟨HZr.out.hn, HZr.out.hd, HSR.out, HZr.out.hl, HZr.out.hp, HZr.out.la, HZr.out.sn, HZr.out.sd⟩).mono ?_
      rintro e w11 ⟨⟨h1, _⟩ | ⟨_, AH, q, cH, x', hx', rfl, hOH⟩, hb11⟩
      · exact absurd HIE.out h1
      simp only [Int.toNat_natCast] at hx' hOH
      obtain rfl : x = x' := by have := HXX.out; rw [this] at hx'; exact Option.some.inj hx'
      rw [show hzAt ns.length ns ds s d p co [] pr x = hz s by rw [HHZ.out]] at hOH
      have HB11 := Lib.hid (hb.out.trans (hb11.out.mono hb.out.size))
      have HO11 := Lib.hid (hO.out.later hb11.out)
      have HQ : Hid ((hz s).length = q) := hOH.out.len
      have hq7 : q ≤ 7 := by have := (HNO.out s).2.1; rw [HQ.out] at this; exact this
      have HC2 : Hid (CntOk hz ((allOf m).take kk) s 0 cnt) := hcn.out s
      have hcbw : cb < wr.heap.size := (hO.out.lt cb rfl).2
      obtain ⟨Bk, hBk⟩ : ∃ y, y = wr.heap.size := ⟨_, rfl⟩
      rw [← hBk] at hOH hcbw
      clear hx' hb11 hO hb hcn HSR HZr HMr HIE hBk
      go_wp2_with fail
      go_loopg [75] q (ExR2 (fun W' => Below w9.heap.size w9 W') cb cb Bk AH cH hz ((allOf m).take kk) s q)
      case atStart => exact ⟨0, cnt, rfl, Nat.zero_le _, rfl, HB11, HO11, hOH, HC2⟩
      case round =>
        clear HB11 HO11 hOH HC2 cnt
        obtain ⟨j, cnt, rfl, hj, rfl, hb, hO, hOH, hcn⟩ := hrel
        by_cases hjl : j < q
        · obtain ⟨b, off, xh, rfl, hbx, hxh, hch⟩ := hOH.out.sl.at1 hjl
          obtain ⟨h1x, h7x⟩ := (HNO.out s).2.2 xh (List.mem_of_getElem? hxh)
          obtain ⟨t, rfl⟩ := Int.eq_ofNat_of_zero_le (show 0 ≤ xh by omega)
          have ht10 : t < 10 := by omega
          have q1 : decide ((t : Int) < 1) = false := by simp; omega
          have q2 : decide (9 < (t : Int)) = false := by simp; omega
          have HN2 := Lib.hid (hcn.out.step hxh)
          have hyc := hcn.out.at hxh (HNO.out s).1 ht10
          obtain ⟨gq, y, e1, hg1, hg2, hy, hcy, hfy, hst⟩ := hO.out.at ht10
          injection e1 with e1
          injection e1 with e1
          subst e1
          rw [hyc] at hy
          injection hy with hy
          subst hy
          have hc256 : cntH hz ((allOf m).take kk) t ≤ 256 := by have h1 := cntH_le hz ((allOf m).take kk) t; have h2 := List.length_take_le kk (allOf m); omega
          have e4 : IntKind.i64.wrap (((cntH hz ((allOf m).take kk) t : Nat) : Int) + 1) = ((cntH hz ((allOf m).take kk) t : Nat) : Int) + 1 := IntWalk.i64_in _ (by omega)
          have HSW := Lib.hid (hst (((cntH hz ((allOf m).take kk) t : Nat) : Int) + 1))
          have HOH2 := Lib.hid (hOH.out.kept (grown_cell wr ⟨cb, t, none⟩ (.int .i64 (((cntH hz ((allOf m).take kk) t : Nat) : Int) + 1))) (ne_row fun b e => by have := (hOH.out.lt b e).1; simp; omega))
          have HB2 := Lib.hid (hb.out.setCell (p := ⟨cb, t, none⟩) (by have := HCBG.out; simp; omega) (.int .i64 (((cntH hz ((allOf m).take kk) t : Nat) : Int) + 1)))
          clear hxh hyc hst hO hOH hb hcn hg1 hg2
          go_wp2_with fail
          go_roundg (q - (j + 1))
          case rel => exact ⟨j + 1, _, by go_num, by omega, rfl, HB2, HSW, HOH2, HN2⟩
          case measure => omega
        · obtain rfl : j = q := by omega
          have hjj : decide (j < j) = false := by simp
          have HD : Hid (∀ s2, CntOk hz ((allOf m).take (kk + 1)) s2 0 cnt) := fun s2 => by rw [take_snoc HS.out]; exact hcn.out.done HQ.out s2
          go_wp2_with fail
          go_roundg (P - (kk + 1))
          case rel => exact ⟨kk + 1, cnt, by go_num, by omega, rfl, hb, hO, HD⟩
          case measure => omega
    · obtain rfl : kk = P := by omega
      have hkk2 : decide (kk < kk) = false := by simp
      have HCN : Hid (∀ h : Nat, h < 10 → cnt[h]? = some ((cntH hz (allOf m) h : Nat) : Int)) := fun h hh => by
        have := (hcn.out []).2 h hh
        rw [List.take_of_length_le (by rw [HPL.out]; exact Nat.le_refl _)] at this
        simpa using this
      clear hcn
      go_wp2_with fail
      go_loopg [19] 8 (ExR3 (fun W' => Below w9.heap.size w9 W' ∧ IntsO W' cb (some ⟨cb, 0, none⟩) 10 10 cnt) 9)
      case atStart => exact ⟨1, rfl, Nat.le_refl _, by decide, rfl, hb.out, hO.out⟩
      case round =>
        clear hb hO HMr
        obtain ⟨i, rfl, hi1, hi9, rfl, hMr⟩ := hrel
        have HMr := Lib.hid (HAB.out _ hMr.out.1)
        by_cases hi : i < 9
        · have hiI : (i : Int) < 9 := by omega
          have hi10 : i < 10 := by omega
          obtain ⟨gq, y, e1, -, -, hy, hcy, -, -⟩ := hMr.out.2.at hi10
          injection e1 with e1
          injection e1 with e1
          subst e1
          rw [HCN.out i hi10] at hy
          injection hy with hy
          subst hy
          obtain ⟨ci, hci⟩ : ∃ y, y = cntH hz (allOf m) i := ⟨_, rfl⟩
          rw [← hci] at hcy
          have HCI := Lib.hid hci
          have HMM := Lib.hid hMr.out
          clear hci hMr
          have HWT := Lib.hid (Witness_any An Ad As none Ap nn cn nd cd nd cs 0 0 np cp ns ds m [] pr d p co i wr (HZ.out _ HMr.out))
          obtain ⟨⟨k0, k1⟩, ⟨o0, o1⟩, g0, g1, g2⟩ := HCL.out _ HMr.out
          by_cases hpos : 0 < ci
          · have qp : decide (0 < ci) = true := decide_eq_true hpos
            have qpI : decide (0 < (ci : Int)) = true := decide_eq_true (by omega)
            by_cases h7 : i = 7
            · subst h7
              have hE7 : hasB am 7 = decide (ci = kk) := by have := HEA.out; rw [HCI.out]; exact this
              by_cases hall : ci = kk
              · have qa : ((ci : Int) == (kk : Int)) = true := by rw [hall]; simp
                have qa2 : (ci == kk) = true := by rw [hall]; simp
                rw [decide_eq_true hall] at hE7
                have HE7 := Lib.hid hE7
                clear hE7 hall
                go_wp2_with fail
                clear k0 k1 o0 o1 g0 g1 g2
                refine HWT.out.mono ?_
                rintro e w20 ⟨⟨h1, _⟩ | ⟨_, x', hx', ⟨kq, s, A2, c2, hs, hin, -, rfl, hsl⟩ | ⟨hno, _⟩⟩, hb20⟩
                · exact absurd HST.out h1
                rotate_left
                · exfalso
                  simp only [Int.toNat_natCast] at hx' hno
                  obtain rfl : x = x' := by have := HXX.out; rw [this] at hx'; exact Option.some.inj hx'
                  have h2 := hpos
                  rw [HCI.out] at h2
                  obtain ⟨t, ht, h3⟩ := (cntH_pos hz (allOf m) _).1 h2
                  rw [HHZ.out] at h3
                  exact hno t ht h3
                simp only [Int.toNat_natCast] at hx' hin
                obtain rfl : x = x' := by have := HXX.out; rw [this] at hx'; exact Option.some.inj hx'
                have HIN : Hid (hasB (hz s) 7 = true) := by unfold Hid; rw [hasB_iff, HHZ.out]; exact hin
                have HSA := Lib.hid (List.mem_of_getElem? hs)
                have HM20 := Lib.hid (HKM.out.later HMr.out hb20.out)
                have HMM20 : Hid (Below w9.heap.size w9 w20 ∧ IntsO w20 cb (some ⟨cb, 0, none⟩) 10 10 cnt) := ⟨HMM.out.1.trans (hb20.out.mono HMM.out.1.size), HMM.out.2.later hb20.out⟩
                have HSM20 := Lib.hid ((HSM9.out.below HMM20.out.1 (Nat.le_refl _)).more HMM20.out.1.size)
                have HIE : Hid (inErr ns ds s d p co = 0) := by unfold Hid inErr; rw [if_pos (state_of_mask HMKE.out HSA.out)]; exact HHZE.out
                obtain ⟨g9, y9, e9, -, -, hy9, hcy9, -, -⟩ := HMM20.out.2.at hi10
                injection e9 with e9
                injection e9 with e9
                subst e9
                rw [HCN.out _ hi10, ← HCI.out] at hy9
                injection hy9 with hy9
                subst hy9
                clear hx' hin hs hb20 hcy HWT HMM
                go_wp2_with fail
                refine (rhasb_any AM kM cM am 7 w20 HSM20.out).mono ?_
                rintro e w21 ⟨rfl, rfl⟩
                rw [HE7.out]
                obtain ⟨⟨k0, k1⟩, ⟨o0, o1⟩, g0, g1, g2⟩ := HCL.out _ HM20.out
                have HZr := Lib.hid (HZ.out _ HM20.out)
                go_wp2_with fail
                clear k0 k1 o0 o1 g0 g1 g2 hcy9
                refine (In_any An Ad A2 none Ap nn cn nd cd s.length c2 0 0 np cp ns ds s [] pr d p co w20 ⟨HZr.out.hn, HZr.out.hd, hsl.out, HZr.out.hl, HZr.out.hp, HZr.out.la, HZr.out.sn, HZr.out.sd⟩).mono ?_
                rintro e w22 ⟨⟨h1, _⟩ | ⟨_, AH, q, cH, x', hx', rfl, hOH⟩, hb22⟩
                · exact absurd HIE.out h1
                simp only [Int.toNat_natCast] at hx' hOH
                obtain rfl : x = x' := by have := HXX.out; rw [this] at hx'; exact Option.some.inj hx'
                rw [show hzAt ns.length ns ds s d p co [] pr x = hz s by rw [HHZ.out]] at hOH
                have HM22 := Lib.hid (HKM.out.later HM20.out hb22.out)
                have HMM22 : Hid (Below w9.heap.size w9 w22 ∧ IntsO w22 cb (some ⟨cb, 0, none⟩) 10 10 cnt) := ⟨HMM20.out.1.trans (hb22.out.mono HMM20.out.1.size), HMM20.out.2.later hb22.out⟩
                have HSO := Lib.hid hOH.out.sl
                have hsn : s.length = nd := by have := ((mem_allN m m.length s).1 HSA.out).1; rw [this]; exact HLS.out
                have HS2 : Hid (Sl w22 w22.heap.size 1 A2 nd c2 (intsV s)) := by have h1 := (hsl.out.below hb22.out (Nat.le_refl _)).more hb22.out.size; rw [hsn] at h1; exact h1
                rw [hsn]
                clear hx' hOH hb22 HZr HM20 HMM20 HSM20 hsl HIE hsn
                go_wp2_with fail
                refine (agrees_true A2 As nd c2 cs w22.heap.size w22.heap.size s m w22 HS2.out (Nat.le_refl _) (HAM.out _ HM22.out).1.2.1 (Nat.le_refl _) HALL.out HSA.out).mono ?_
                rintro e w23 ⟨rfl, hb23⟩
                have HMM23 : Hid (Below w9.heap.size w9 w23 ∧ IntsO w23 cb (some ⟨cb, 0, none⟩) 10 10 cnt) := ⟨HMM22.out.1.trans (hb23.mono HMM22.out.1.size), HMM22.out.2.later hb23⟩
                have HSO3 := Lib.hid ((HSO.out.below hb23 (Nat.le_refl _)).more hb23.size)
                clear hb23 HS2 HSO HMM22 HM22
                go_wp2_with fail
                refine (rhasb_any AH q cH (hz s) 7 w23 HSO3.out).mono ?_
                rintro e w24 ⟨rfl, rfl⟩
                rw [HIN.out]
                go_wp2_with fail
                go_roundg (9 - (7 + 1))
                case rel => exact ⟨7 + 1, by go_num, by omega, by omega, rfl, HMM23⟩
                case measure => omega
              · have qa : ((ci : Int) == (kk : Int)) = false := by simp; omega
                have qa2 : (ci == kk) = false := by simp; omega
                rw [decide_eq_false hall] at hE7
                have HE7 := Lib.hid hE7
                clear hE7 hall
                go_wp2_with fail
                clear k0 k1 o0 o1 g0 g1 g2
                refine HWT.out.mono ?_
                rintro e w20 ⟨⟨h1, _⟩ | ⟨_, x', hx', ⟨kq, s, A2, c2, hs, hin, -, rfl, hsl⟩ | ⟨hno, _⟩⟩, hb20⟩
                · exact absurd HST.out h1
                rotate_left
                · exfalso
                  simp only [Int.toNat_natCast] at hx' hno
                  obtain rfl : x = x' := by have := HXX.out; rw [this] at hx'; exact Option.some.inj hx'
                  have h2 := hpos
                  rw [HCI.out] at h2
                  obtain ⟨t, ht, h3⟩ := (cntH_pos hz (allOf m) _).1 h2
                  rw [HHZ.out] at h3
                  exact hno t ht h3
                simp only [Int.toNat_natCast] at hx' hin
                obtain rfl : x = x' := by have := HXX.out; rw [this] at hx'; exact Option.some.inj hx'
                have HIN : Hid (hasB (hz s) 7 = true) := by unfold Hid; rw [hasB_iff, HHZ.out]; exact hin
                have HSA := Lib.hid (List.mem_of_getElem? hs)
                have HM20 := Lib.hid (HKM.out.later HMr.out hb20.out)
                have HMM20 : Hid (Below w9.heap.size w9 w20 ∧ IntsO w20 cb (some ⟨cb, 0, none⟩) 10 10 cnt) := ⟨HMM.out.1.trans (hb20.out.mono HMM.out.1.size), HMM.out.2.later hb20.out⟩
                have HSM20 := Lib.hid ((HSM9.out.below HMM20.out.1 (Nat.le_refl _)).more HMM20.out.1.size)
                have HIE : Hid (inErr ns ds s d p co = 0) := by unfold Hid inErr; rw [if_pos (state_of_mask HMKE.out HSA.out)]; exact HHZE.out
                obtain ⟨g9, y9, e9, -, -, hy9, hcy9, -, -⟩ := HMM20.out.2.at hi10
                injection e9 with e9
                injection e9 with e9
                subst e9
                rw [HCN.out _ hi10, ← HCI.out] at hy9
                injection hy9 with hy9
                subst hy9
                clear hx' hin hs hb20 hcy HWT HMM
                go_wp2_with fail
                refine (rhasb_any AM kM cM am 7 w20 HSM20.out).mono ?_
                rintro e w21 ⟨rfl, rfl⟩
                rw [HE7.out]
                obtain ⟨⟨k0, k1⟩, ⟨o0, o1⟩, g0, g1, g2⟩ := HCL.out _ HM20.out
                have HZr := Lib.hid (HZ.out _ HM20.out)
                go_wp2_with fail
                clear k0 k1 o0 o1 g0 g1 g2 hcy9
                refine (In_any An Ad A2 none Ap nn cn nd cd s.length c2 0 0 np cp ns ds s [] pr d p co w20 ⟨HZr.out.hn, HZr.out.hd, hsl.out, HZr.out.hl, HZr.out.hp, HZr.out.la, HZr.out.sn, HZr.out.sd⟩).mono ?_
                rintro e w22 ⟨⟨h1, _⟩ | ⟨_, AH, q, cH, x', hx', rfl, hOH⟩, hb22⟩
                · exact absurd HIE.out h1
                simp only [Int.toNat_natCast] at hx' hOH
                obtain rfl : x = x' := by have := HXX.out; rw [this] at hx'; exact Option.some.inj hx'
                rw [show hzAt ns.length ns ds s d p co [] pr x = hz s by rw [HHZ.out]] at hOH
                have HM22 := Lib.hid (HKM.out.later HM20.out hb22.out)
                have HMM22 : Hid (Below w9.heap.size w9 w22 ∧ IntsO w22 cb (some ⟨cb, 0, none⟩) 10 10 cnt) := ⟨HMM20.out.1.trans (hb22.out.mono HMM20.out.1.size), HMM20.out.2.later hb22.out⟩
                have HSO := Lib.hid hOH.out.sl
                have hsn : s.length = nd := by have := ((mem_allN m m.length s).1 HSA.out).1; rw [this]; exact HLS.out
                have HS2 : Hid (Sl w22 w22.heap.size 1 A2 nd c2 (intsV s)) := by have h1 := (hsl.out.below hb22.out (Nat.le_refl _)).more hb22.out.size; rw [hsn] at h1; exact h1
                rw [hsn]
                clear hx' hOH hb22 HZr HM20 HMM20 HSM20 hsl HIE hsn
                go_wp2_with fail
                refine (agrees_true A2 As nd c2 cs w22.heap.size w22.heap.size s m w22 HS2.out (Nat.le_refl _) (HAM.out _ HM22.out).1.2.1 (Nat.le_refl _) HALL.out HSA.out).mono ?_
                rintro e w23 ⟨rfl, hb23⟩
                have HMM23 : Hid (Below w9.heap.size w9 w23 ∧ IntsO w23 cb (some ⟨cb, 0, none⟩) 10 10 cnt) := ⟨HMM22.out.1.trans (hb23.mono HMM22.out.1.size), HMM22.out.2.later hb23⟩
                have HSO3 := Lib.hid ((HSO.out.below hb23 (Nat.le_refl _)).more hb23.size)
                clear hb23 HS2 HSO HMM22 HM22
                go_wp2_with fail
                refine (rhasb_any AH q cH (hz s) 7 w23 HSO3.out).mono ?_
                rintro e w24 ⟨rfl, rfl⟩
                rw [HIN.out]
                go_wp2_with fail
                go_roundg (9 - (7 + 1))
                case rel => exact ⟨7 + 1, by go_num, by omega, by omega, rfl, HMM23⟩
                case measure => omega
            · have hE7 : hasB am i = true := by rw [HEX.out i (by omega), ← HCI.out]; exact qp
              have HE7 := Lib.hid hE7
              have q7 : ((i : Int) == 7) = false := by simp; omega
              clear hE7
              go_wp2_with fail
              clear k0 k1 o0 o1 g0 g1 g2
              refine HWT.out.mono ?_
              rintro e w20 ⟨⟨h1, _⟩ | ⟨_, x', hx', ⟨kq, s, A2, c2, hs, hin, -, rfl, hsl⟩ | ⟨hno, _⟩⟩, hb20⟩
              · exact absurd HST.out h1
              rotate_left
              · exfalso
                simp only [Int.toNat_natCast] at hx' hno
                obtain rfl : x = x' := by have := HXX.out; rw [this] at hx'; exact Option.some.inj hx'
                have h2 := hpos
                rw [HCI.out] at h2
                obtain ⟨t, ht, h3⟩ := (cntH_pos hz (allOf m) _).1 h2
                rw [HHZ.out] at h3
                exact hno t ht h3
              simp only [Int.toNat_natCast] at hx' hin
              obtain rfl : x = x' := by have := HXX.out; rw [this] at hx'; exact Option.some.inj hx'
              have HIN : Hid (hasB (hz s) i = true) := by unfold Hid; rw [hasB_iff, HHZ.out]; exact hin
              have HSA := Lib.hid (List.mem_of_getElem? hs)
              have HM20 := Lib.hid (HKM.out.later HMr.out hb20.out)
              have HMM20 : Hid (Below w9.heap.size w9 w20 ∧ IntsO w20 cb (some ⟨cb, 0, none⟩) 10 10 cnt) := ⟨HMM.out.1.trans (hb20.out.mono HMM.out.1.size), HMM.out.2.later hb20.out⟩
              have HSM20 := Lib.hid ((HSM9.out.below HMM20.out.1 (Nat.le_refl _)).more HMM20.out.1.size)
              have HIE : Hid (inErr ns ds s d p co = 0) := by unfold Hid inErr; rw [if_pos (state_of_mask HMKE.out HSA.out)]; exact HHZE.out
              obtain ⟨g9, y9, e9, -, -, hy9, hcy9, -, -⟩ := HMM20.out.2.at hi10
              injection e9 with e9
              injection e9 with e9
              subst e9
              rw [HCN.out _ hi10, ← HCI.out] at hy9
              injection hy9 with hy9
              subst hy9
              clear hx' hin hs hb20 hcy HWT HMM
              go_wp2_with fail
              refine (rhasb_any AM kM cM am i w20 HSM20.out).mono ?_
              rintro e w21 ⟨rfl, rfl⟩
              rw [HE7.out]
              obtain ⟨⟨k0, k1⟩, ⟨o0, o1⟩, g0, g1, g2⟩ := HCL.out _ HM20.out
              have HZr := Lib.hid (HZ.out _ HM20.out)
              go_wp2_with fail
              clear k0 k1 o0 o1 g0 g1 g2 hcy9
              refine (In_any An Ad A2 none Ap nn cn nd cd s.length c2 0 0 np cp ns ds s [] pr d p co w20 ⟨HZr.out.hn, HZr.out.hd, hsl.out, HZr.out.hl, HZr.out.hp, HZr.out.la, HZr.out.sn, HZr.out.sd⟩).mono ?_
              rintro e w22 ⟨⟨h1, _⟩ | ⟨_, AH, q, cH, x', hx', rfl, hOH⟩, hb22⟩
              · exact absurd HIE.out h1
              simp only [Int.toNat_natCast] at hx' hOH
              obtain rfl : x = x' := by have := HXX.out; rw [this] at hx'; exact Option.some.inj hx'
              rw [show hzAt ns.length ns ds s d p co [] pr x = hz s by rw [HHZ.out]] at hOH
              have HM22 := Lib.hid (HKM.out.later HM20.out hb22.out)
              have HMM22 : Hid (Below w9.heap.size w9 w22 ∧ IntsO w22 cb (some ⟨cb, 0, none⟩) 10 10 cnt) := ⟨HMM20.out.1.trans (hb22.out.mono HMM20.out.1.size), HMM20.out.2.later hb22.out⟩
              have HSO := Lib.hid hOH.out.sl
              have hsn : s.length = nd := by have := ((mem_allN m m.length s).1 HSA.out).1; rw [this]; exact HLS.out
              have HS2 : Hid (Sl w22 w22.heap.size 1 A2 nd c2 (intsV s)) := by have h1 := (hsl.out.below hb22.out (Nat.le_refl _)).more hb22.out.size; rw [hsn] at h1; exact h1
              rw [hsn]
              clear hx' hOH hb22 HZr HM20 HMM20 HSM20 hsl HIE hsn
              go_wp2_with fail
              refine (agrees_true A2 As nd c2 cs w22.heap.size w22.heap.size s m w22 HS2.out (Nat.le_refl _) (HAM.out _ HM22.out).1.2.1 (Nat.le_refl _) HALL.out HSA.out).mono ?_
              rintro e w23 ⟨rfl, hb23⟩
              have HMM23 : Hid (Below w9.heap.size w9 w23 ∧ IntsO w23 cb (some ⟨cb, 0, none⟩) 10 10 cnt) := ⟨HMM22.out.1.trans (hb23.mono HMM22.out.1.size), HMM22.out.2.later hb23⟩
              have HSO3 := Lib.hid ((HSO.out.below hb23 (Nat.le_refl _)).more hb23.size)
              clear hb23 HS2 HSO HMM22 HM22
              go_wp2_with fail
              refine (rhasb_any AH q cH (hz s) i w23 HSO3.out).mono ?_
              rintro e w24 ⟨rfl, rfl⟩
              rw [HIN.out]
              go_wp2_with fail
              go_roundg (9 - (i + 1))
              case rel => exact ⟨i + 1, by go_num, by omega, by omega, rfl, HMM23⟩
              case measure => omega
          · have qp : decide (0 < ci) = false := decide_eq_false hpos
            have qpI : decide (0 < (ci : Int)) = false := decide_eq_false (by omega)
            have hc0 : ci = 0 := by omega
            by_cases h7 : i = 7
            · subst h7
              have hE7 : hasB am 7 = decide (ci = kk) := by have := HEA.out; rw [HCI.out]; exact this
              rw [decide_eq_false (by omega)] at hE7
              have qa : ((ci : Int) == (kk : Int)) = false := by simp; omega
              have qa2 : (ci == kk) = false := by simp; omega
              have HE7 := Lib.hid hE7
              have HC0 := Lib.hid hc0
              clear hE7 hc0
              go_wp2_with fail
              clear k0 k1 o0 o1 g0 g1 g2
              refine HWT.out.mono ?_
              rintro e w20 ⟨⟨h1, _⟩ | ⟨_, x', hx', ⟨kq, s, A2, c2, hs, hin, -, _, -⟩ | ⟨hno, rfl⟩⟩, hb20⟩
              · exact absurd HST.out h1
              · exfalso
                simp only [Int.toNat_natCast] at hx' hin
                obtain rfl : x = x' := by have := HXX.out; rw [this] at hx'; exact Option.some.inj hx'
                have h2 : 0 < cntH hz (allOf m) 7 := (cntH_pos hz (allOf m) _).2 ⟨s, List.mem_of_getElem? hs, by rw [HHZ.out]; exact hin⟩
                have h3 := HCI.out
                have h4 := HC0.out
                have h5 : cntH hz (allOf m) 7 = 0 := by rw [← h4]; exact h3.symm
                omega
              have HM20 := Lib.hid (HKM.out.later HMr.out hb20.out)
              have HMM20 : Hid (Below w9.heap.size w9 w20 ∧ IntsO w20 cb (some ⟨cb, 0, none⟩) 10 10 cnt) := ⟨HMM.out.1.trans (hb20.out.mono HMM.out.1.size), HMM.out.2.later hb20.out⟩
              have HSM20 := Lib.hid ((HSM9.out.below HMM20.out.1 (Nat.le_refl _)).more HMM20.out.1.size)
              obtain ⟨g9, y9, e9, -, -, hy9, hcy9, -, -⟩ := HMM20.out.2.at hi10
              injection e9 with e9
              injection e9 with e9
              subst e9
              rw [HCN.out _ hi10, ← HCI.out] at hy9
              injection hy9 with hy9
              subst hy9
              clear hx' hno hb20 hcy HWT HMM
              go_wp2_with fail
              refine (rhasb_any AM kM cM am 7 w20 HSM20.out).mono ?_
              rintro e w21 ⟨rfl, rfl⟩
              rw [HE7.out]
              go_wp2_with fail
              go_roundg (9 - (7 + 1))
              case rel => exact ⟨7 + 1, by go_num, by omega, by omega, rfl, HMM20⟩
              case measure => omega
            · have hE7 : hasB am i = false := by rw [HEX.out i (by omega), ← HCI.out]; exact qp
              have HE7 := Lib.hid hE7
              have q7 : ((i : Int) == 7) = false := by simp; omega
              have HC0 := Lib.hid hc0
              clear hE7 hc0
              go_wp2_with fail
              clear k0 k1 o0 o1 g0 g1 g2
              refine HWT.out.mono ?_
              rintro e w20 ⟨⟨h1, _⟩ | ⟨_, x', hx', ⟨kq, s, A2, c2, hs, hin, -, _, -⟩ | ⟨hno, rfl⟩⟩, hb20⟩
              · exact absurd HST.out h1
              · exfalso
                simp only [Int.toNat_natCast] at hx' hin
                obtain rfl : x = x' := by have := HXX.out; rw [this] at hx'; exact Option.some.inj hx'
                have h2 : 0 < cntH hz (allOf m) i := (cntH_pos hz (allOf m) _).2 ⟨s, List.mem_of_getElem? hs, by rw [HHZ.out]; exact hin⟩
                have h3 := HCI.out
                have h4 := HC0.out
                have h5 : cntH hz (allOf m) i = 0 := by rw [← h4]; exact h3.symm
                omega
              have HM20 := Lib.hid (HKM.out.later HMr.out hb20.out)
              have HMM20 : Hid (Below w9.heap.size w9 w20 ∧ IntsO w20 cb (some ⟨cb, 0, none⟩) 10 10 cnt) := ⟨HMM.out.1.trans (hb20.out.mono HMM.out.1.size), HMM.out.2.later hb20.out⟩
              have HSM20 := Lib.hid ((HSM9.out.below HMM20.out.1 (Nat.le_refl _)).more HMM20.out.1.size)
              obtain ⟨g9, y9, e9, -, -, hy9, hcy9, -, -⟩ := HMM20.out.2.at hi10
              injection e9 with e9
              injection e9 with e9
              subst e9
              rw [HCN.out _ hi10, ← HCI.out] at hy9
              injection hy9 with hy9
              subst hy9
              clear hx' hno hb20 hcy HWT HMM
              go_wp2_with fail
              refine (rhasb_any AM kM cM am i w20 HSM20.out).mono ?_
              rintro e w21 ⟨rfl, rfl⟩
              rw [HE7.out]
              go_wp2_with fail
              go_roundg (9 - (i + 1))
              case rel => exact ⟨i + 1, by go_num, by omega, by omega, rfl, HMM20⟩
              case measure => omega
        · obtain rfl : i = 9 := by omega
          have HB9 := Lib.hid hMr.out.1
          clear hMr
          go_wp2_with fail
          refine (awake_any _ (HAM.out _ HMr.out).1.1.la).mono ?_
          rintro e w40 ⟨rfl, hbE⟩
          have HBE := Lib.hid (hbw.out.trans ((HB9.out.trans (hbE.mono HB9.out.size)).mono hbw.out.size))
          clear hbE
          go_wp2_with fail
          go_ret
          exact ⟨rfl, HBE.out⟩
end Go.Proofs.YtdpmfdcackoegaaGreatDoor
