/-
  The program's layer 14: walks of those, Gaps, Earths, Worst.
-/
import Derived.Test.YtfabeihlfgemdaaDoorLkK
import Derived.Test.YtfabeihlfgemdaaDoorOwn
namespace Go.Proofs.YtfabeihlfgemdaaDoor
open Go.RowKit
def gapB (k : Int) : Bool := k == 1 || k == 3 || k == 6
def wrsAt (ds : List Dv) (ls : List Lk) (i : Nat) : Int := match lckL ls i with | some p => p | none => if kindOf ds i = 5 then 2 else 3
/-- The worst masks of the first devices. -/
def wrsTo (ds : List Dv) (ls : List Lk) (n : Nat) : List Int := (List.range n).map fun i => wrsAt ds ls i
def thoB (ds : List Dv) (ls : List Lk) (pos : Int) (p : Int → Bool) (i : Nat) : Bool := decide (lckL ls i = some pos) && p (kindOf ds i)
/-- The devices, of the first ones, that are locked in a position and of a kind that fits. -/
def thoTo (ds : List Dv) (ls : List Lk) (pos : Int) (p : Int → Bool) (n : Nat) : List Int := ((List.range n).filter (thoB ds ls pos p)).map fun i : Nat => (i : Int)
theorem wrsTo_len (ds : List Dv) (ls : List Lk) (n : Nat) : (wrsTo ds ls n).length = n := by simp [wrsTo]
theorem wrsTo_at {ds : List Dv} {ls : List Lk} {n i : Nat} (h : i < n) : (wrsTo ds ls n)[i]? = some (wrsAt ds ls i) := by simp [wrsTo, h]
theorem thoTo_succ (ds : List Dv) (ls : List Lk) (pos : Int) (p : Int → Bool) (n : Nat) : thoTo ds ls pos p (n + 1) = if thoB ds ls pos p n = true then thoTo ds ls pos p n ++ [(n : Int)] else thoTo ds ls pos p n := by
  unfold thoTo
  rw [List.range_succ, List.filter_append, List.map_append]
  rcases h : thoB ds ls pos p n with _ | _ <;> simp [h]
theorem thoTo_mem {ds : List Dv} {ls : List Lk} {pos : Int} {p : Int → Bool} {n i : Nat} (hi : i < n) : (i : Int) ∈ thoTo ds ls pos p n ↔ thoB ds ls pos p i = true := by
  unfold thoTo
  constructor
  · intro h
    obtain ⟨j, hj, e⟩ := List.mem_map.1 h
    obtain rfl : j = i := by omega
    exact (List.mem_filter.1 hj).2
  · intro h
    exact List.mem_map.2 ⟨i, List.mem_filter.2 ⟨List.mem_range.2 hi, h⟩, rfl⟩
def IntsEPost (w : World) (er : Int) (l : List Int) (e : Ending) (w' : World) : Prop :=
  (er ≠ 0 ∧ e = .returned (.tuple #[.slice none 0 0, .int .i64 er]) ∨ er = 0 ∧ ∃ (A : Option Addr) (c : Nat), e = .returned (.tuple #[.slice A l.length c, .int .i64 0]) ∧ Hid (IntsO w' w.heap.size A l.length c l)) ∧ Hid (Below w.heap.size w w')
theorem IntsEPost.ok {w w' : World} {er : Int} {l : List Int} {e : Ending} (h : IntsEPost w er l e w') (h0 : er = 0) : ∃ (A : Option Addr) (c : Nat), e = .returned (.tuple #[.slice A l.length c, .int .i64 0]) ∧ Hid (IntsO w' w.heap.size A l.length c l) ∧ Hid (Below w.heap.size w w') := by
  obtain ⟨⟨h1, _⟩ | ⟨_, A, c, h1, h2⟩, h3⟩ := h
  · exact absurd h0 h1
  · exact ⟨A, c, h1, h2, h3⟩
/-- A function value that tells something of a kind. -/
def PredK (g : Nat) (p : Int → Bool) : Prop := ∀ (W : World) (k : Int), Calls Tryd.prog g #[.int .i64 k] W fun e w' => e = .returned (.bool (p k)) ∧ W = w'
theorem gap_any : PredK 48 gapB := by
  intro w k
  by_cases h1 : k = 1
  · subst h1
    go_enter Tryd.func48, Tryd.ntmps48
    go_wp2_with fail
    go_ret
    exact ⟨rfl, rfl⟩
  · have q1 : (k == 1) = false := by simpa using h1
    by_cases h2 : k = 3
    · subst h2
      go_enter Tryd.func48, Tryd.ntmps48
      go_wp2_with fail
      go_ret
      exact ⟨rfl, rfl⟩
    · have q2 : (k == 3) = false := by simpa using h2
      have HR : Hid (gapB k = (k == 6)) := by unfold Hid gapB; rw [q1, q2]; simp
      go_enter Tryd.func48, Tryd.ntmps48
      go_wp2_with fail
      go_ret
      exact ⟨ret_bool HR.out.symm, rfl⟩
theorem isearth_any : PredK 50 (fun k => k == 4) := by
  intro w k
  go_enter Tryd.func50, Tryd.ntmps50
  go_wp2_with fail
  go_ret
  exact ⟨rfl, rfl⟩
def ThR (w : World) (N : Array Value) (ds : List Dv) (ls : List Lk) (pos : Int) (p : Int → Bool) (n gk : Nat) (ov iv : Value) (wr : World) : Prop := ∃ (i m c : Nat) (A : Option Addr), ov = .slice A m c ∧ iv = .int .i64 i ∧ i ≤ n ∧ gk = n - i ∧ m ≤ i ∧ Hid ((thoTo ds ls pos p i).length = m) ∧ Hid (IntsO wr (w.heap.size + 1) A m c (thoTo ds ls pos p i)) ∧ Hid (PcSt w N wr)
set_option maxRecDepth 100000 in
set_option maxHeartbeats 8000000 in
theorem those_any (g : Nat) (p : Int → Bool) (eg : ∀ args w, (callFunc g args).run Tryd.prog w = .ok (.enter g args) w) (hp : PredK g p) (pos : Int) (An Ad Al : Option Addr) (nn cn nd cd n c Bn Bd Bl : Nat) (ns : List Nd) (ds : List Dv) (ls : List Lk) (w : World) (hla : Laid w) (hn : Sl w Bn 3 An nn cn (ns.flatMap Nd.cells)) (hd : Sl w Bd 5 Ad nd cd (ds.flatMap Dv.cells)) (hs : Sl w Bl 3 Al n c (ls.flatMap Lk.cells)) (hBn : Bn ≤ w.heap.size) (hBd : Bd ≤ w.heap.size) (hBl : Bl ≤ w.heap.size) (hnd : nd ≤ 1000)
    (hsn : ∀ x ∈ ns, x.name.size ≤ 9223372036854775807) (hsd : ∀ x ∈ ds, x.name.size ≤ 9223372036854775807) :
    Calls Tryd.prog 47 #[.agg #[.slice An nn cn, .slice Ad nd cd], .slice Al n c, .int .i64 pos, .func (.func g) #[] #[]] w (IntsEPost w (locksErr ns ds ls) (thoTo ds ls pos p nd)) := by
  have HS := Lib.hid hs; have HD := Lib.hid hd
  have hdl := hd.le
  have HST : Hid (PcSt w #[.slice An nn cn, .slice Ad nd cd] (w.alloc (.cells #[.slice An nn cn, .slice Ad nd cd] 30))) := ⟨Blk.new _ _ _, (Below.refl _ _).alloc (Nat.le_refl _) _⟩
  have HCK := Lib.hid (lcheck_any An Ad Al nn cn nd cd n c Bn Bd Bl ns ds ls (w.alloc (.cells #[.slice An nn cn, .slice Ad nd cd] 30)) (hla.alloc _) (hn.below HST.out.bl hBn) (hd.below HST.out.bl hBd) (hs.below HST.out.bl hBl) (by simp; omega) (by simp; omega) (by simp; omega) hsn hsd)
  have HP := Lib.hid hp
  clear hn hd hs hsn hsd hla hp
  go_enter Tryd.func47, Tryd.ntmps47
  go_wp2_with fail
  generalize World.alloc _ _ = W at *
  refine HCK.out.mono ?_
  rintro e w1 ⟨rfl, hb1⟩
  have HS1 := Lib.hid (HST.out.later hb1)
  clear hb1 HST HCK
  by_cases h0 : locksErr ns ds ls = 0; rotate_left
  · have q0 : (locksErr ns ds ls != 0) = true := by simpa using h0
    have HNZ := Lib.hid h0
    clear h0
    go_wp2_with fail
    go_ret2
    exact ⟨.inl ⟨HNZ.out, rfl⟩, HS1.out.bl⟩
  have HZ := Lib.hid h0
  rw [h0]
  clear h0
  have k1 : w1.cell? ⟨w.heap.size, 1, none⟩ = some (.slice Ad nd cd) := HS1.out.bn.cell 1
  go_wp2_with fail
  clear k1
  go_loopg [11, 25] nd (ThR w #[.slice An nn cn, .slice Ad nd cd] ds ls pos p nd)
  case atStart => exact ⟨0, 0, 0, none, rfl, rfl, Nat.zero_le _, rfl, Nat.le_refl _, rfl, World.ownsRow_nil _ _ _ _, HS1⟩
  case round =>
    clear HS1
    obtain ⟨i, m, c3, A, rfl, rfl, hi, rfl, hmi, hlen, hO, hst⟩ := hrel
    by_cases hlt : i < nd
    · obtain ⟨b, off, x, rfl, hb, hx, hc⟩ := (HD.out.below hst.out.bl hBd).at (fun _ => rfl) (by decide) hlt
      have HKO := Lib.hid (kindOf_at hx)
      obtain ⟨nm, kd, xa, xb, co⟩ := x
      have c0 : wr.cell? ⟨b, off + i * 5, none⟩ = some (.string nm) := hc 0 _ rfl
      have c1 : wr.cell? ⟨b, off + i * 5 + 1, none⟩ = some (.int .i64 kd) := hc 1 _ rfl
      have c2 : wr.cell? ⟨b, off + i * 5 + 2, none⟩ = some (.int .i64 xa) := hc 2 _ rfl
      have c3' : wr.cell? ⟨b, off + i * 5 + 3, none⟩ = some (.int .i64 xb) := hc 3 _ rfl
      have c4 : wr.cell? ⟨b, off + i * 5 + 4, none⟩ = some (.int .i64 co) := hc 4 _ rfl
      clear hc hx
      have HS2 : Hid (PcSt w _ (wr.alloc (.cells #[.string nm, .int .i64 kd, .int .i64 xa, .int .i64 xb, .int .i64 co] 44))) := hst.out.later ((Below.refl _ _).alloc (Nat.le_refl _) _)
      have HK2 : Hid (Blk (wr.alloc (.cells #[.string nm, .int .i64 kd, .int .i64 xa, .int .i64 xb, .int .i64 co] 44)) wr.heap.size 44 #[.string nm, .int .i64 kd, .int .i64 xa, .int .i64 xb, .int .i64 co]) := Blk.new _ _ _
      have HO2 : Hid (IntsO (wr.alloc (.cells #[.string nm, .int .i64 kd, .int .i64 xa, .int .i64 xb, .int .i64 co] 44)) (w.heap.size + 1) A m c3 (thoTo ds ls pos p i)) := World.ownsRow.alloc hO.out _
      have hzr := hst.out.bn.lt
      clear hst hO
      go_upto_region 8 with (fail)
      clear c0 c1 c2 c3' c4
      generalize World.alloc wr _ = W2 at *
      have hz2 := HS2.out.bl.size
      go_wp2_with fail
      refine (locked_any Al n c Bl ls i W2 (HS.out.below HS2.out.bl hBl) (by omega)).mono ?_
      rintro e w3 ⟨rfl, hb3⟩
      have HS3 := Lib.hid (HS2.out.later hb3)
      have HK3 := Lib.hid (HK2.out.below hb3 HK2.out.lt)
      have HO3 := Lib.hid (HO2.out.later hb3)
      clear hb3 HS2 HK2 HO2 hz2
      unfold lckE
      have HSU := Lib.hid (thoTo_succ ds ls pos p i)
      have HTB : Hid (thoB ds ls pos p i = (decide (lckL ls i = some pos) && p kd)) := by unfold Hid thoB; rw [HKO.out]
      have hz3 := HS3.out.bn.lt
      rcases hl : lckL ls i with _ | pv
      · have HF : Hid (thoTo ds ls pos p (i + 1) = thoTo ds ls pos p i) := by unfold Hid; rw [HSU.out, HTB.out, hl]; rfl
        clear hl
        simp only [Option.getD_none, Option.isSome_none]
        go_wp2_with fail
        go_roundg (nd - (i + 1))
        case rel => exact ⟨i + 1, m, c3, A, rfl, by go_num, by omega, rfl, by omega, by rw [HF.out]; exact hlen, by rw [HF.out]; exact HO3, HS3⟩
        case measure => omega
      · simp only [Option.getD_some, Option.isSome_some]
        by_cases hpp : pv = pos
        · subst hpp
          have qp : (pv == pv) = true := by simp
          have k1 : w3.cell? ⟨wr.heap.size, 1, none⟩ = some (.int .i64 kd) := HK3.out.cell 1
          rcases hpk : p kd with _ | _
          · have hcall := HP.out w3 kd
            rw [hpk] at hcall
            have HF : Hid (thoTo ds ls pv p (i + 1) = thoTo ds ls pv p i) := by unfold Hid; rw [HSU.out, HTB.out, hl, hpk]; simp
            clear hl hpk
            go_wp2_with (go_at_fn g; refine hcall.mono ?_; rintro e w' ⟨rfl, rfl⟩)
            go_roundg (nd - (i + 1))
            case rel => exact ⟨i + 1, m, c3, A, rfl, by go_num, by omega, rfl, by omega, by rw [HF.out]; exact hlen, by rw [HF.out]; exact HO3, HS3⟩
            case measure => omega
          · have hcall := HP.out w3 kd
            rw [hpk] at hcall
            have HF : Hid (thoTo ds ls pv p (i + 1) = thoTo ds ls pv p i ++ [(i : Int)]) := by unfold Hid; rw [HSU.out, HTB.out, hl, hpk]; simp
            clear hl hpk
            go_upto_region 10 with (go_at_fn g; refine hcall.mono ?_; rintro e w' ⟨rfl, rfl⟩)
            clear k1 qp hcall
            go_wp2_with (at_builtin; go_must (refine wpList_app rfl (.tmp 48) (.tmp 50) rfl el_int (by rfl) (World.ownsRow.alloc HO3.out _) (by rfl) (Sl.newest (n := 1) (by simp) (by rfl) (by decide)) (by simp [Value.oneCell']) (by omega) (by omega) (by simp; omega) ?_; intro A' cap' w5 hown5 hgr5 hat5; have HO5 := Lib.hid hown5; have HG5 := Lib.hid hgr5; clear hown5 hgr5 hat5))
            go_roundg (nd - (i + 1))
            case rel =>
              have hr1 : ∀ b, (Value.slice A m c3).ownBlock = some b → w.heap.size + 1 ≤ b := fun b e => (HO3.out.lt b e).1
              have hg5 := HG5.out
              have hb5 : Below (w.heap.size + 1) w3 w5 := ((Below.refl _ _).alloc hz3 _).trans ⟨hg5.os, hg5.tape, hg5.output, hg5.size, fun t ht => hg5.block t (by simp; omega) (fun e => by have := hr1 t e.symm; omega)⟩
              refine ⟨i + 1, m + 1, cap', A', rfl, by go_num, by omega, rfl, by omega, ?_, ?_, ⟨HS3.out.bn.below hb5 (by omega), HS3.out.bl.trans (hb5.mono (by omega))⟩⟩
              · unfold Hid; rw [HF.out, List.length_append, hlen.out]; rfl
              · unfold Hid IntsO; rw [HF.out, intsV_append]; exact HO5.out
            case measure => omega
        · have qp : (pv == pos) = false := by simpa using hpp
          have HF : Hid (thoTo ds ls pos p (i + 1) = thoTo ds ls pos p i) := by unfold Hid; rw [HSU.out, HTB.out, hl]; simp [hpp]
          clear hl hpp
          go_wp2_with fail
          go_roundg (nd - (i + 1))
          case rel => exact ⟨i + 1, m, c3, A, rfl, by go_num, by omega, rfl, by omega, by rw [HF.out]; exact hlen, by rw [HF.out]; exact HO3, HS3⟩
          case measure => omega
    · obtain rfl : i = nd := by omega
      have hii : decide (i < i) = false := by simp
      go_wp2_with fail
      go_ret2
      refine ⟨.inr ⟨HZ.out, A, c3, by rw [hlen.out]; rfl, ?_⟩, hst.out.bl⟩
      unfold Hid; rw [hlen.out]; exact hO.out.mono (by omega)
theorem gaps_any (An Ad Al : Option Addr) (nn cn nd cd n c Bn Bd Bl : Nat) (ns : List Nd) (ds : List Dv) (ls : List Lk) (w : World) (hla : Laid w) (hn : Sl w Bn 3 An nn cn (ns.flatMap Nd.cells)) (hd : Sl w Bd 5 Ad nd cd (ds.flatMap Dv.cells)) (hs : Sl w Bl 3 Al n c (ls.flatMap Lk.cells)) (hBn : Bn ≤ w.heap.size) (hBd : Bd ≤ w.heap.size) (hBl : Bl ≤ w.heap.size) (hnd : nd ≤ 1000)
    (hsn : ∀ x ∈ ns, x.name.size ≤ 9223372036854775807) (hsd : ∀ x ∈ ds, x.name.size ≤ 9223372036854775807) :
    Calls Tryd.prog 20 #[.agg #[.slice An nn cn, .slice Ad nd cd], .slice Al n c] w (IntsEPost w (locksErr ns ds ls) (thoTo ds ls 1 gapB nd)) := by
  have HB : Hid (Below w.heap.size w (w.alloc (.cells #[.slice An nn cn, .slice Ad nd cd] 30))) := (Below.refl _ _).alloc (Nat.le_refl _) _
  have HC := Lib.hid (those_any 48 gapB (enters_of Tryd.func48 (by kernel_rfl) rfl) gap_any 1 An Ad Al nn cn nd cd n c Bn Bd Bl ns ds ls (w.alloc (.cells #[.slice An nn cn, .slice Ad nd cd] 30)) (hla.alloc _) (hn.below HB.out hBn) (hd.below HB.out hBd) (hs.below HB.out hBl) (by simp; omega) (by simp; omega) (by simp; omega) hnd hsn hsd)
  have HW : Hid ((w.alloc (.cells #[.slice An nn cn, .slice Ad nd cd] 30)).heap.size = w.heap.size + 1) := by unfold Hid; simp
  clear hn hd hs hla
  generalize thoTo ds ls 1 gapB nd = l at *
  go_enter Tryd.func20, Tryd.ntmps20
  go_wp2_with fail
  generalize World.alloc _ _ = W at *
  refine HC.out.mono ?_
  rintro e w1 ⟨⟨h1, rfl⟩ | ⟨h1, A, c1, rfl, hO⟩, hb⟩
  · have HNZ := Lib.hid h1
    clear h1
    go_wp2_with fail
    go_ret2
    exact ⟨.inl ⟨HNZ.out, rfl⟩, HB.out.trans (hb.out.mono HB.out.size)⟩
  · have HZ := Lib.hid h1
    clear h1
    go_wp2_with fail
    go_ret2
    exact ⟨.inr ⟨HZ.out, A, c1, rfl, hO.out.mono (by have := HW.out; omega)⟩, HB.out.trans (hb.out.mono HB.out.size)⟩
theorem earths_any (An Ad Al : Option Addr) (nn cn nd cd n c Bn Bd Bl : Nat) (ns : List Nd) (ds : List Dv) (ls : List Lk) (w : World) (hla : Laid w) (hn : Sl w Bn 3 An nn cn (ns.flatMap Nd.cells)) (hd : Sl w Bd 5 Ad nd cd (ds.flatMap Dv.cells)) (hs : Sl w Bl 3 Al n c (ls.flatMap Lk.cells)) (hBn : Bn ≤ w.heap.size) (hBd : Bd ≤ w.heap.size) (hBl : Bl ≤ w.heap.size) (hnd : nd ≤ 1000)
    (hsn : ∀ x ∈ ns, x.name.size ≤ 9223372036854775807) (hsd : ∀ x ∈ ds, x.name.size ≤ 9223372036854775807) :
    Calls Tryd.prog 22 #[.agg #[.slice An nn cn, .slice Ad nd cd], .slice Al n c] w (IntsEPost w (locksErr ns ds ls) (thoTo ds ls 2 (fun k => k == 4) nd)) := by
  have HB : Hid (Below w.heap.size w (w.alloc (.cells #[.slice An nn cn, .slice Ad nd cd] 30))) := (Below.refl _ _).alloc (Nat.le_refl _) _
  have HC := Lib.hid (those_any 50 (fun k => k == 4) (enters_of Tryd.func50 (by kernel_rfl) rfl) isearth_any 2 An Ad Al nn cn nd cd n c Bn Bd Bl ns ds ls (w.alloc (.cells #[.slice An nn cn, .slice Ad nd cd] 30)) (hla.alloc _) (hn.below HB.out hBn) (hd.below HB.out hBd) (hs.below HB.out hBl) (by simp; omega) (by simp; omega) (by simp; omega) hnd hsn hsd)
  have HW : Hid ((w.alloc (.cells #[.slice An nn cn, .slice Ad nd cd] 30)).heap.size = w.heap.size + 1) := by unfold Hid; simp
  clear hn hd hs hla
  generalize thoTo ds ls 2 (fun k => k == 4) nd = l at *
  go_enter Tryd.func22, Tryd.ntmps22
  go_wp2_with fail
  generalize World.alloc _ _ = W at *
  refine HC.out.mono ?_
  rintro e w1 ⟨⟨h1, rfl⟩ | ⟨h1, A, c1, rfl, hO⟩, hb⟩
  · have HNZ := Lib.hid h1
    clear h1
    go_wp2_with fail
    go_ret2
    exact ⟨.inl ⟨HNZ.out, rfl⟩, HB.out.trans (hb.out.mono HB.out.size)⟩
  · have HZ := Lib.hid h1
    clear h1
    go_wp2_with fail
    go_ret2
    exact ⟨.inr ⟨HZ.out, A, c1, rfl, hO.out.mono (by have := HW.out; omega)⟩, HB.out.trans (hb.out.mono HB.out.size)⟩
/-- The list that Worst fills: the first i are done, the others are zero. -/
def wrsMix (ds : List Dv) (ls : List Lk) (n i : Nat) : List Int := wrsTo ds ls i ++ List.replicate (n - i) 0
theorem wrsMix_zero (ds : List Dv) (ls : List Lk) (n : Nat) : wrsMix ds ls n 0 = List.replicate n 0 := by simp [wrsMix, wrsTo]
theorem wrsMix_all (ds : List Dv) (ls : List Lk) (n : Nat) : wrsMix ds ls n n = wrsTo ds ls n := by simp [wrsMix]
theorem wrsMix_set {ds : List Dv} {ls : List Lk} {n i : Nat} (h : i < n) : (wrsMix ds ls n i).set i (wrsAt ds ls i) = wrsMix ds ls n (i + 1) := by
  unfold wrsMix
  rw [List.set_append_right _ _ (by rw [wrsTo_len]; exact Nat.le_refl _), wrsTo_len, Nat.sub_self, show n - i = (n - (i + 1)) + 1 by omega, List.replicate_succ, List.set_cons_zero]
  have : wrsTo ds ls (i + 1) = wrsTo ds ls i ++ [wrsAt ds ls i] := by simp [wrsTo, List.range_succ]
  rw [this, List.append_assoc]; rfl
def WsR (w : World) (N : Array Value) (ds : List Dv) (ls : List Lk) (A : Option Addr) (n c gk : Nat) (iv : Value) (wr : World) : Prop := ∃ i : Nat, iv = .int .i64 i ∧ i ≤ n ∧ gk = n - i ∧ Hid (IntsO wr (w.heap.size + 1) A n c (wrsMix ds ls n i)) ∧ Hid (PcSt w N wr)
set_option maxRecDepth 100000 in
set_option maxHeartbeats 8000000 in
theorem worst_any (An Ad Al : Option Addr) (nn cn nd cd n c Bn Bd Bl : Nat) (ns : List Nd) (ds : List Dv) (ls : List Lk) (w : World) (hla : Laid w) (hn : Sl w Bn 3 An nn cn (ns.flatMap Nd.cells)) (hd : Sl w Bd 5 Ad nd cd (ds.flatMap Dv.cells)) (hs : Sl w Bl 3 Al n c (ls.flatMap Lk.cells)) (hBn : Bn ≤ w.heap.size) (hBd : Bd ≤ w.heap.size) (hBl : Bl ≤ w.heap.size) (hnd : nd ≤ 1000)
    (hsn : ∀ x ∈ ns, x.name.size ≤ 9223372036854775807) (hsd : ∀ x ∈ ds, x.name.size ≤ 9223372036854775807) :
    Calls Tryd.prog 24 #[.agg #[.slice An nn cn, .slice Ad nd cd], .slice Al n c] w (IntsEPost w (locksErr ns ds ls) (wrsTo ds ls nd)) := by
  have HS := Lib.hid hs; have HD := Lib.hid hd
  have hdl := hd.le
  have HST : Hid (PcSt w #[.slice An nn cn, .slice Ad nd cd] (w.alloc (.cells #[.slice An nn cn, .slice Ad nd cd] 30))) := ⟨Blk.new _ _ _, (Below.refl _ _).alloc (Nat.le_refl _) _⟩
  have HCK := Lib.hid (lcheck_any An Ad Al nn cn nd cd n c Bn Bd Bl ns ds ls (w.alloc (.cells #[.slice An nn cn, .slice Ad nd cd] 30)) (hla.alloc _) (hn.below HST.out.bl hBn) (hd.below HST.out.bl hBd) (hs.below HST.out.bl hBl) (by simp; omega) (by simp; omega) (by simp; omega) hsn hsd)
  clear hn hd hs hsn hsd hla
  go_enter Tryd.func24, Tryd.ntmps24
  go_wp2_with fail
  generalize World.alloc _ _ = W at *
  refine HCK.out.mono ?_
  rintro e w1 ⟨rfl, hb1⟩
  have HS1 := Lib.hid (HST.out.later hb1)
  clear hb1 HST HCK
  by_cases h0 : locksErr ns ds ls = 0; rotate_left
  · have q0 : (locksErr ns ds ls != 0) = true := by simpa using h0
    have HNZ := Lib.hid h0
    clear h0
    go_wp2_with fail
    go_ret2
    exact ⟨.inl ⟨HNZ.out, rfl⟩, HS1.out.bl⟩
  have HZ := Lib.hid h0
  rw [h0]
  clear h0
  have k1 : w1.cell? ⟨w.heap.size, 1, none⟩ = some (.slice Ad nd cd) := HS1.out.bn.cell 1
  have hmk := fun W => run_mk_int nd (by omega) W
  have hz1 := HS1.out.bn.lt
  have HO1 : Hid (IntsO (w1.alloc (.cells (intsV (List.replicate nd 0)).toArray 3)) (w.heap.size + 1) (some ⟨w1.heap.size, 0, none⟩) nd nd (wrsMix ds ls nd 0)) := by unfold Hid; rw [wrsMix_zero]; exact ints_new hz1 (by omega)
  have HS2 : Hid (PcSt w #[.slice An nn cn, .slice Ad nd cd] (w1.alloc (.cells (intsV (List.replicate nd 0)).toArray 3))) := HS1.out.later ((Below.refl _ _).alloc (Nat.le_refl _) _)
  have k2 : (w1.alloc (.cells (intsV (List.replicate nd 0)).toArray 3)).cell? ⟨w.heap.size, 1, none⟩ = some (.slice Ad nd cd) := HS2.out.bn.cell 1
  clear HS1
  go_wp2_with fail
  clear k1 k2 hmk
  generalize World.alloc w1 _ = W2 at *
  go_loopg [25] nd (WsR w #[.slice An nn cn, .slice Ad nd cd] ds ls (some ⟨w1.heap.size, 0, none⟩) nd nd)
  case atStart => exact ⟨0, rfl, Nat.zero_le _, rfl, HO1, HS2⟩
  case round =>
    clear HS2 HO1
    obtain ⟨i, rfl, hi, rfl, hO, hst⟩ := hrel
    by_cases hlt : i < nd
    · obtain ⟨b, off, x, rfl, hb, hx, hc⟩ := (HD.out.below hst.out.bl hBd).at (fun _ => rfl) (by decide) hlt
      have HKO := Lib.hid (kindOf_at hx)
      obtain ⟨nm, kd, xa, xb, co⟩ := x
      have c0 : wr.cell? ⟨b, off + i * 5, none⟩ = some (.string nm) := hc 0 _ rfl
      have c1 : wr.cell? ⟨b, off + i * 5 + 1, none⟩ = some (.int .i64 kd) := hc 1 _ rfl
      have c2 : wr.cell? ⟨b, off + i * 5 + 2, none⟩ = some (.int .i64 xa) := hc 2 _ rfl
      have c3' : wr.cell? ⟨b, off + i * 5 + 3, none⟩ = some (.int .i64 xb) := hc 3 _ rfl
      have c4 : wr.cell? ⟨b, off + i * 5 + 4, none⟩ = some (.int .i64 co) := hc 4 _ rfl
      clear hc hx
      have HS2 : Hid (PcSt w _ (wr.alloc (.cells #[.string nm, .int .i64 kd, .int .i64 xa, .int .i64 xb, .int .i64 co] 44))) := hst.out.later ((Below.refl _ _).alloc (Nat.le_refl _) _)
      have HK2 : Hid (Blk (wr.alloc (.cells #[.string nm, .int .i64 kd, .int .i64 xa, .int .i64 xb, .int .i64 co] 44)) wr.heap.size 44 #[.string nm, .int .i64 kd, .int .i64 xa, .int .i64 xb, .int .i64 co]) := Blk.new _ _ _
      have HO2 : Hid (IntsO (wr.alloc (.cells #[.string nm, .int .i64 kd, .int .i64 xa, .int .i64 xb, .int .i64 co] 44)) (w.heap.size + 1) (some ⟨w1.heap.size, 0, none⟩) nd nd (wrsMix ds ls nd i)) := World.ownsRow.alloc hO.out _
      clear hst hO
      go_upto_region 8 with (fail)
      clear c0 c1 c2 c3' c4
      generalize World.alloc wr _ = W3 at *
      have hz2 := HS2.out.bl.size
      go_wp2_with fail
      refine (locked_any Al n c Bl ls i W3 (HS.out.below HS2.out.bl hBl) (by omega)).mono ?_
      rintro e w3 ⟨rfl, hb3⟩
      have HS3 := Lib.hid (HS2.out.later hb3)
      have HK3 := Lib.hid (HK2.out.below hb3 HK2.out.lt)
      have HO3 := Lib.hid (HO2.out.later hb3)
      clear hb3 HS2 HK2 HO2 hz2
      have HW : Hid (wrsAt ds ls i = match lckL ls i with | some p => p | none => if kd = 5 then 2 else 3) := by unfold Hid wrsAt; rw [HKO.out]
      have HSE := Lib.hid (wrsMix_set (ds := ds) (ls := ls) hlt)
      obtain ⟨qb, y, hqe, hq1, hq2, hy, hcy, hfy, hst4⟩ := IntsO.at HO3.out hlt
      injection hqe with hqe; injection hqe with hqe; subst hqe
      have hz3 := HS3.out.bn.lt
      have HST4 : Hid (∀ v, PcSt w _ (w3.setCell ⟨w1.heap.size, i, none⟩ (.int .i64 v))) := fun v => ⟨HS3.out.bn.far (by simp; omega) _, HS3.out.bl.setCell (by simp; omega) _⟩
      have HO4 := Lib.hid hst4
      clear hst4 hy
      unfold lckE
      rcases hl : lckL ls i with _ | pv
      · simp only [Option.getD_none, Option.isSome_none]
        have k1 : w3.cell? ⟨wr.heap.size, 1, none⟩ = some (.int .i64 kd) := HK3.out.cell 1
        by_cases h5 : kd = 5
        · have HF : Hid (wrsAt ds ls i = 2) := by unfold Hid; rw [HW.out, hl]; simp [h5]
          have q5 : (kd == 5) = true := by simpa using h5
          clear hl h5
          go_wp2_with fail
          go_roundg (nd - (i + 1))
          case rel => exact ⟨i + 1, by go_num, by omega, rfl, by rw [← HSE.out, HF.out]; exact HO4.out 2, HST4.out 2⟩
          case measure => omega
        · have HF : Hid (wrsAt ds ls i = 3) := by unfold Hid; rw [HW.out, hl]; simp [h5]
          have q5 : (kd == 5) = false := by simpa using h5
          clear hl h5
          go_wp2_with fail
          go_roundg (nd - (i + 1))
          case rel => exact ⟨i + 1, by go_num, by omega, rfl, by rw [← HSE.out, HF.out]; exact HO4.out 3, HST4.out 3⟩
          case measure => omega
      · simp only [Option.getD_some, Option.isSome_some]
        have HF : Hid (wrsAt ds ls i = pv) := by unfold Hid; rw [HW.out, hl]
        clear hl
        go_wp2_with fail
        go_roundg (nd - (i + 1))
        case rel => exact ⟨i + 1, by go_num, by omega, rfl, by rw [← HSE.out, HF.out]; exact HO4.out pv, HST4.out pv⟩
        case measure => omega
    · obtain rfl : i = nd := by omega
      have hii : decide (i < i) = false := by simp
      have hlen := wrsTo_len ds ls i
      go_wp2_with fail
      go_ret2
      refine ⟨.inr ⟨HZ.out, some ⟨w1.heap.size, 0, none⟩, i, by rw [hlen]; rfl, ?_⟩, hst.out.bl⟩
      unfold Hid; rw [hlen, ← wrsMix_all]; exact hO.out.mono (by omega)
end Go.Proofs.YtfabeihlfgemdaaDoor
