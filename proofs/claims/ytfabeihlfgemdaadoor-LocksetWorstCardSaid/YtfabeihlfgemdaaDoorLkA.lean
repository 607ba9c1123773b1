/-
  The program's layer 14: walk of Add.
-/
import Derived.Test.YtfabeihlfgemdaaDoorLkK
import Derived.Test.YtfabeihlfgemdaaDoorLkS
import Derived.Test.YtfabeihlfgemdaaDoorR14A
namespace Go.Proofs.YtfabeihlfgemdaaDoor
open Go.RowKit
theorem sort_ins {ds : List Dv} {ls ms : List Lk} {k : Lk} (hg : GoodL ds (insL k ls)) (hp : ms.Perm (ls ++ [k])) (hs : ms.Pairwise fun x y => befB y x = false) : ms = insL k ls := by
  have hpi : ms.Perm (insL k ls) := hp.trans (ins_perm k ls).symm
  have hk : (insL k ls).Pairwise fun a b : Lk => a.key ≠ b.key := hg.2.2.imp fun h => h.2.2
  have hkm : ms.Pairwise fun a b : Lk => a.key ≠ b.key := hpi.symm.pairwise hk (fun h e => h e.symm)
  refine lk_ext ?_ hg.sorted (fun x => hpi.mem_iff)
  exact (hs.and hkm).imp fun ⟨h1, h2⟩ => bef_total (fun e => h2 e.symm) h1
theorem own_new3 {w : World} {base : Nat} {e : TypeId} (hb : base ≤ w.heap.size) : (w.alloc (.cells #[] e)).ownsRow base e 3 (.slice (some ⟨w.heap.size, 0, none⟩) 0 0) 0 [] :=
  ⟨rfl, .inr ⟨w.heap.size, 0, #[], rfl, hb, heap_alloc_new w _, Nat.le_refl _, by simp [maxLen], rfl, rfl⟩⟩
theorem run_isnil_lk (A : Option Addr) (n c : Nat) (w : World) : (binOp BinOp.eql 33 (.slice A n c) (.slice none 0 0)).run Tryd.prog w = .ok (.bool A.isNone) w := by
  cases A <;> kernel_rfl
set_option maxRecDepth 100000 in
set_option maxHeartbeats 1000000 in
theorem clonelk_any (A : Option Addr) (n c B : Nat) (l : List Lk) (w : World) (hs : Sl w B 3 A n c (l.flatMap Lk.cells)) (hB : B ≤ w.heap.size) (hn : n ≤ 1000000) : Calls Tryd.prog 40 #[.slice A n c] w fun e w' => ∃ (A' : Option Addr) (c' : Nat), e = .returned (.slice A' l.length c') ∧ Hid (LocksO w' w.heap.size A' l.length c' l) ∧ Hid (Below w.heap.size w w') := by
  have hl := hs.len (fun _ => rfl) (by decide)
  have HL := Lib.hid hl; clear hl
  cases A with
  | none =>
    have h0 : n = 0 := by have := hs.2.2.2.1 rfl; have := hs.le; omega
    subst h0
    have hl0 : l = [] := List.eq_nil_of_length_eq_zero HL.out
    subst hl0
    clear hs HL
    have hnil := run_isnil_lk none 0 c w
    simp only [Option.isNone_none] at hnil
    go_enter Tryd.func40, Tryd.ntmps40
    go_wp2_with fail
    go_ret
    exact ⟨none, 0, rfl, World.ownsRow_nil _ _ _ _, Below.refl _ _⟩
  | some a =>
    have HS := Lib.hid hs
    have hH := hs.le
    clear hs
    have hnil := run_isnil_lk (some a) n c w
    simp only [Option.isNone_some] at hnil
    go_enter Tryd.func40, Tryd.ntmps40
    have h1 : ∀ u ∈ l.flatMap Lk.cells, u.oneCell' = true := locks_one l
    have HS1 := Lib.hid (HS.out.alloc hB (.cells #[] 37))
    go_wp2_with (at_builtin; go_must (refine wpList_app rfl (.tmp 5) (.tmp 6) rfl el_lock (base := w.heap.size) (n := 0) (xs := []) (by rfl) (own_new3 (Nat.le_refl _)) (by rfl) HS1.out h1 (by omega) (by omega) (by simp) ?_; intro A' cap' w2 hown2 hgr2 hat2; simp only [Nat.zero_add, List.nil_append] at hown2 hgr2; have HO := Lib.hid hown2; have HG := Lib.hid hgr2; clear hown2 hgr2 hat2))
    go_ret
    obtain rfl : l.length = n := HL.out
    exact ⟨A', cap', rfl, HO.out, ((Below.refl _ _).alloc (Nat.le_refl _) _).trans (below_of_grown HG.out (Nat.le_refl _) (by simp))⟩
theorem app_below1 {w4 w5 w6 : World} {A : Option Addr} {n c : Nat} {xs : List Value} {o : Obj} {e : TypeId} {size : Nat} (h5 : Below w4.drew.heap.size w4.drew w5) (ho : w5.ownsRow w4.drew.heap.size e size (.slice A n c) n xs) (h6 : (w5.alloc o).grownBy w6 (Value.slice A n c).ownBlock) : Below w4.heap.size w4 w6 := by
  have h1 : Below w4.heap.size w4 w5 := (Below.refl _ _).drew.trans h5
  have h2 := h1.alloc h1.size o
  exact h2.trans ⟨h6.os, h6.tape, h6.output, h6.size, fun t ht => h6.block t (by have := h2.size; omega) (fun e => by have := (ho.lt t e.symm).1; simp only [World.drew] at this; omega)⟩
theorem app_below2 {w4 w5 w6 : World} {A : Option Addr} {n c : Nat} {xs : List Value} {o : Obj} {e : TypeId} {size : Nat} (h5 : Below (w4.drew.alloc o).heap.size (w4.drew.alloc o) w5) (ho : w5.ownsRow (w4.drew.alloc o).heap.size e size (.slice A n c) n xs) (h6 : w5.grownBy w6 (Value.slice A n c).ownBlock) : Below w4.heap.size w4 w6 := by
  have hsz : (w4.drew.alloc o).heap.size = w4.heap.size + 1 := by simp
  have h1 : Below w4.heap.size w4 w5 := ((Below.refl _ _).drew.alloc (by simp) o).trans (h5.mono (by omega))
  exact h1.trans ⟨h6.os, h6.tape, h6.output, h6.size, fun t ht => h6.block t (by have := h1.size; omega) (fun e => by have := (ho.lt t e.symm).1; omega)⟩
set_option maxRecDepth 100000 in
set_option maxHeartbeats 8000000 in
theorem ladd_any (An Ad Al : Option Addr) (nn cn nd cd c Bn Bd Bl : Nat) (ns : List Nd) (ds : List Dv) (ls : List Lk) (d p q : Int) (w : World) (hla : Laid w) (hn : Sl w Bn 3 An nn cn (ns.flatMap Nd.cells)) (hd : Sl w Bd 5 Ad nd cd (ds.flatMap Dv.cells)) (hs : Sl w Bl 3 Al ls.length c (ls.flatMap Lk.cells)) (hBn : Bn ≤ w.heap.size) (hBd : Bd ≤ w.heap.size) (hBl : Bl ≤ w.heap.size)
    (hsn : ∀ x ∈ ns, x.name.size ≤ 9223372036854775807) (hsd : ∀ x ∈ ds, x.name.size ≤ 9223372036854775807) :
    Calls Tryd.prog 14 #[.agg #[.slice An nn cn, .slice Ad nd cd], .slice Al ls.length c, .agg #[.int .i64 d, .int .i64 p, .int .i64 q]] w (LkAddPost w ns ds ls ⟨d, p, q⟩) := by
  obtain ⟨n, hnl⟩ : ∃ n, n = ls.length := ⟨_, rfl⟩
  rw [← hnl] at hs ⊢
  have HNL := Lib.hid hnl
  have HE : Hid (addErr ns ds ls ⟨d, p, q⟩ = if locksErr ns ds ls ≠ 0 then locksErr ns ds ls else if lkErr ds ⟨d, p, q⟩ ≠ 0 then lkErr ds ⟨d, p, q⟩ else if usdL ls q = true then 4 else if othL ls ⟨d, p, q⟩ = true then 18 else if n = 128 then 1 else 0) := by unfold Hid addErr; rw [hnl]
  have hle := hs.le
  have HD := Lib.hid hd; have HS := Lib.hid hs
  have HST : Hid (RaSt w #[.slice An nn cn, .slice Ad nd cd] #[.int .i64 d, .int .i64 p, .int .i64 q] ((w.alloc (.cells #[.slice An nn cn, .slice Ad nd cd] 30)).alloc (.cells #[.int .i64 d, .int .i64 p, .int .i64 q] 37))) :=
    ⟨(Blk.new _ _ _).alloc _, by have := Blk.new (w.alloc (.cells #[.slice An nn cn, .slice Ad nd cd] 30)) 37 #[.int .i64 d, .int .i64 p, .int .i64 q]; simpa using this, ((Below.refl _ _).alloc (Nat.le_refl _) _).alloc (by simp) _⟩
  have HLA2 := Lib.hid ((hla.alloc (.cells #[.slice An nn cn, .slice Ad nd cd] 30)).alloc (.cells #[.int .i64 d, .int .i64 p, .int .i64 q] 37))
  have hN2 := hn.below HST.out.bl hBn
  clear hd hs hnl hla
  go_enter Tryd.func14, Tryd.ntmps14
  go_upto_region 1 with (fail)
  generalize World.alloc (World.alloc _ _) _ = W at *
  have hz := HST.out.bl.size
  have HCK := Lib.hid (lcheck_any An Ad Al nn cn nd cd n c Bn Bd Bl ns ds ls W HLA2.out hN2 (HD.out.below HST.out.bl hBd) (HS.out.below HST.out.bl hBl) (by omega) (by omega) (by omega) hsn hsd)
  have k0 : W.cell? ⟨w.heap.size, 0, none⟩ = some (.slice An nn cn) := HST.out.bn.cell 0
  have k1 : W.cell? ⟨w.heap.size, 1, none⟩ = some (.slice Ad nd cd) := HST.out.bn.cell 1
  clear hN2 hn hsn hsd HLA2
  go_wp2_with fail
  clear k0 k1
  refine HCK.out.mono ?_
  rintro e w1 ⟨rfl, hb1⟩
  have HS1 := Lib.hid (HST.out.later hb1)
  clear hb1 HST hz HCK
  by_cases h0 : locksErr ns ds ls = 0; rotate_left
  · have q0 : (locksErr ns ds ls != 0) = true := by simpa using h0
    have q1 : (locksErr ns ds ls == 0) = false := by simpa using h0
    have HR : Hid (addErr ns ds ls ⟨d, p, q⟩ = locksErr ns ds ls) := by unfold Hid; rw [HE.out, if_pos h0]
    have HNZ := Lib.hid h0
    clear h0
    go_wp2_with fail
    go_ret2
    exact ⟨.inl (by rw [HR.out]; exact ⟨HNZ.out, rfl⟩), HS1.out.bl⟩
  have HG := Lib.hid (locks_good h0)
  rw [h0]
  replace HE : Hid (addErr ns ds ls ⟨d, p, q⟩ = if lkErr ds ⟨d, p, q⟩ ≠ 0 then lkErr ds ⟨d, p, q⟩ else if usdL ls q = true then 4 else if othL ls ⟨d, p, q⟩ = true then 18 else if n = 128 then 1 else 0) := by unfold Hid; rw [HE.out, if_neg (by simp [h0])]
  clear h0
  have k0 : w1.cell? ⟨w.heap.size, 0, none⟩ = some (.slice An nn cn) := HS1.out.bn.cell 0
  have k1 : w1.cell? ⟨w.heap.size, 1, none⟩ = some (.slice Ad nd cd) := HS1.out.bn.cell 1
  have m0 : w1.cell? ⟨w.heap.size + 1, 0, none⟩ = some (.int .i64 d) := HS1.out.bk.cell 0
  have m1 : w1.cell? ⟨w.heap.size + 1, 1, none⟩ = some (.int .i64 p) := HS1.out.bk.cell 1
  have m2 : w1.cell? ⟨w.heap.size + 1, 2, none⟩ = some (.int .i64 q) := HS1.out.bk.cell 2
  have hz1 := HS1.out.bl.size
  go_wp2_with fail
  clear k0 k1 m0 m1 m2
  refine (valid_any An Ad nn cn nd cd Bd ds d p q w1 (HD.out.below HS1.out.bl hBd) (by omega)).mono ?_
  rintro e w2 ⟨rfl, hb2⟩
  have HS2 := Lib.hid (HS1.out.later hb2)
  clear hb2 HS1 hz1
  by_cases h1 : lkErr ds ⟨d, p, q⟩ = 0; rotate_left
  · have q0 : (lkErr ds ⟨d, p, q⟩ != 0) = true := by simpa using h1
    have HR : Hid (addErr ns ds ls ⟨d, p, q⟩ = lkErr ds ⟨d, p, q⟩) := by unfold Hid; rw [HE.out, if_pos h1]
    have HNZ := Lib.hid h1
    clear h1
    go_wp2_with fail
    go_ret2
    exact ⟨.inl (by rw [HR.out]; exact ⟨HNZ.out, rfl⟩), HS2.out.bl⟩
  have HLE := Lib.hid h1
  rw [h1]
  replace HE : Hid (addErr ns ds ls ⟨d, p, q⟩ = if usdL ls q = true then 4 else if othL ls ⟨d, p, q⟩ = true then 18 else if n = 128 then 1 else 0) := by unfold Hid; rw [HE.out, if_neg (by simp [h1])]
  clear h1
  have m2 : w2.cell? ⟨w.heap.size + 1, 2, none⟩ = some (.int .i64 q) := HS2.out.bk.cell 2
  have hz2 := HS2.out.bl.size
  go_wp2_with fail
  clear m2
  refine (used_any Al n c Bl ls q w2 (HS.out.below HS2.out.bl hBl) (by omega)).mono ?_
  rintro e w3 ⟨rfl, hb3⟩
  have HS3 := Lib.hid (HS2.out.later hb3)
  clear hb3 HS2 hz2
  rcases hu : usdL ls q with _ | _
  rotate_left
  · have HR : Hid (addErr ns ds ls ⟨d, p, q⟩ = 4) := by unfold Hid; rw [HE.out, if_pos hu]
    clear hu
    go_wp2_with fail
    go_ret2
    exact ⟨.inl (by rw [HR.out]; exact ⟨by decide, rfl⟩), HS3.out.bl⟩
  replace HE : Hid (addErr ns ds ls ⟨d, p, q⟩ = if othL ls ⟨d, p, q⟩ = true then 18 else if n = 128 then 1 else 0) := by unfold Hid; rw [HE.out, if_neg (by rw [hu]; simp)]
  have HU := Lib.hid hu
  clear hu
  have m0 : w3.cell? ⟨w.heap.size + 1, 0, none⟩ = some (.int .i64 d) := HS3.out.bk.cell 0
  have m1 : w3.cell? ⟨w.heap.size + 1, 1, none⟩ = some (.int .i64 p) := HS3.out.bk.cell 1
  have m2 : w3.cell? ⟨w.heap.size + 1, 2, none⟩ = some (.int .i64 q) := HS3.out.bk.cell 2
  have hz3 := HS3.out.bl.size
  go_wp2_with fail
  clear m0 m1 m2
  refine (other_any Al n c Bl ls d p q w3 (HS.out.below HS3.out.bl hBl) (by omega)).mono ?_
  rintro e w4 ⟨rfl, hb4⟩
  have HS4 := Lib.hid (HS3.out.later hb4)
  clear hb4 HS3 hz3
  rcases ho : othL ls ⟨d, p, q⟩ with _ | _
  rotate_left
  · have HR : Hid (addErr ns ds ls ⟨d, p, q⟩ = 18) := by unfold Hid; rw [HE.out, if_pos ho]
    clear ho
    go_wp2_with fail
    go_ret2
    exact ⟨.inl (by rw [HR.out]; exact ⟨by decide, rfl⟩), HS4.out.bl⟩
  replace HE : Hid (addErr ns ds ls ⟨d, p, q⟩ = if n = 128 then 1 else 0) := by unfold Hid; rw [HE.out, if_neg (by rw [ho]; simp)]
  have HO := Lib.hid ho
  clear ho
  have hn128 : n ≤ 128 := by have := HG.out.1; have := HNL.out; omega
  by_cases h128 : n = 128
  · have HR : Hid (addErr ns ds ls ⟨d, p, q⟩ = 1) := by unfold Hid; rw [HE.out, if_pos h128]
    have q1 : ((n : Int) == (128 : Int)) = true := by simp; omega
    have q2 : decide (n = 128) = true := by simpa using h128
    clear h128
    go_wp2_with fail
    go_ret2
    exact ⟨.inl (by rw [HR.out]; exact ⟨by decide, rfl⟩), HS4.out.bl⟩
  have HR : Hid (addErr ns ds ls ⟨d, p, q⟩ = 0) := by unfold Hid; rw [HE.out, if_neg h128]
  have HINS := Lib.hid (ins_good HG.out HLE.out HU.out HO.out (by have := HNL.out; omega))
  have q1 : ((n : Int) == (128 : Int)) = false := by simp; omega
  have q2 : decide (n = 128) = false := by simpa using h128
  clear h128 HE HLE HU HO
  have HBX : Hid (w4.cell? ⟨w.heap.size + 1, 0, none⟩ = some (.int .i64 d) ∧ w4.cell? ⟨w.heap.size + 1, 1, none⟩ = some (.int .i64 p) ∧ w4.cell? ⟨w.heap.size + 1, 2, none⟩ = some (.int .i64 q)) := ⟨HS4.out.bk.cell 0, HS4.out.bk.cell 1, HS4.out.bk.cell 2⟩
  have HSL4 := Lib.hid (HS.out.below HS4.out.bl hBl)
  have hz4 := HS4.out.bl.size
  have hnl := HNL.out
  subst hnl
  go_upto_region 12 with (fail)
  refine wp_region_J (S := fun W' => W'.cell? ⟨w.heap.size + 1, 0, none⟩ = some (.int .i64 d) ∧ W'.cell? ⟨w.heap.size + 1, 1, none⟩ = some (.int .i64 p) ∧ W'.cell? ⟨w.heap.size + 1, 2, none⟩ = some (.int .i64 q)) (J := []) (by kernel_rfl) ?_ (fun hHeld => ?_)
  · exact HBX.out
  try dsimp only at hHeld
  refine wpAnyJ_takeL (i := 0) (d := some 35) (v := ?_) #[true, false, false, false, false, false] (by kernel_rfl) rfl rfl (by kernel_rfl) (by kernel_rfl) (by kernel_rfl) (by kernel_rfl) (by kernel_rfl) (fun _ _ _ h => h) (Or.inl ⟨by rfl, ?_⟩) hHeld ?_
  rotate_left
  · (intro w hSw; (try dsimp only at hSw);  go_simp; try with_reducible rfl)
  try simp only [Act.put, List.setIfInBounds_toArray, List.set_cons_zero, List.set_cons_succ]
  refine wpAnyJ_takeL (i := 2) (d := some 37) (v := ?_) #[true, false, true, false, false, false] (by kernel_rfl) rfl rfl (by kernel_rfl) (by kernel_rfl) (by kernel_rfl) (by kernel_rfl) (by kernel_rfl) (fun _ _ _ h => h) (Or.inl ⟨by rfl, ?_⟩) hHeld ?_
  rotate_left
  · (intro w hSw; (try dsimp only at hSw);  go_simp; try with_reducible rfl)
  try simp only [Act.put, List.setIfInBounds_toArray, List.set_cons_zero, List.set_cons_succ]
  refine wpAnyJ_twoL (i := 1) (k := 3) #[true, true, true, false, false, false] #[true, false, true, true, false, false] (by kernel_rfl) (by kernel_rfl) (by kernel_rfl) rfl rfl (fun K hK => ?_) (fun K hK => ?_)
  · (go_simp; refine (clonelk_any Al ls.length c Bl ls w4.drew HSL4.out.drew (by simp only [World.drew]; omega) (by omega)).mono ?_; rintro e w5 ⟨A5, c5, rfl, hO5, hb5⟩; go_simp)
    refine hK.out _ _ (fun _ => ?_) (fun hHeld' => ?_)
    · exact ⟨keep_cell hb5.out HBX.out.1, keep_cell hb5.out HBX.out.2.1, keep_cell hb5.out HBX.out.2.2⟩
    replace hHeld := hHeld' rfl
    clear hHeld' hK K
    try dsimp only at hHeld
    refine wpAnyJ_oneL (k := 3) #[true, true, true, true, false, false] (by kernel_rfl) (by kernel_rfl) rfl (fun K hK => ?_)
    go_simp
    refine hK.out _ _ (fun _ => ?_) (fun hHeld' => ?_)
    · exact ⟨cell_al2 _ (keep_cell hb5.out HBX.out.1), cell_al2 _ (keep_cell hb5.out HBX.out.2.1), cell_al2 _ (keep_cell hb5.out HBX.out.2.2)⟩
    replace hHeld := hHeld' rfl
    clear hHeld' hK K
    try dsimp only at hHeld
    refine wpAnyJ_oneL (k := 4) #[true, true, true, true, true, false] (by kernel_rfl) (by kernel_rfl) rfl (fun K hK => ?_)
    (refine step_app_d (d := some 39) (by rfl) (by rfl) (.tmp 36) (.tmp 38) (by rfl) el_lock (by rfl) (World.ownsRow.alloc hO5.out _) (by rfl) (Sl.newest (n := 1) (by simp) (by rfl) (by decide)) (by simp [Value.oneCell']) (by omega) (by omega) (by have := hb5.out.size; simp at this ⊢; omega) ?_; intro A6 c6 w6 hown6 hgr6 hat6)
    refine hK.out _ _ (fun _ => ?_) (fun hHeld' => ?_)
    · exact ⟨keep_cell (app_below1 hb5.out hO5.out hgr6) HBX.out.1, keep_cell (app_below1 hb5.out hO5.out hgr6) HBX.out.2.1, keep_cell (app_below1 hb5.out hO5.out hgr6) HBX.out.2.2⟩
    replace hHeld := hHeld' rfl
    clear hHeld' hK K
    try dsimp only at hHeld
    refine wpAnyJ_takeL (i := 5) (d := some 9) (v := ?_) #[true, true, true, true, true, true] (by kernel_rfl) rfl rfl (by kernel_rfl) (by kernel_rfl) (by kernel_rfl) (by kernel_rfl) (by kernel_rfl) (fun _ _ _ h => h) (Or.inl ⟨by rfl, ?_⟩) hHeld ?_
    rotate_left
    · (intro w hSw; (try dsimp only at hSw);  go_simp; try with_reducible rfl)
    try simp only [Act.put, List.setIfInBounds_toArray, List.set_cons_zero, List.set_cons_succ]
    refine wpAnyJ_done (by kernel_rfl) ?_ _
    clear hHeld
    have HB46 : Hid (Below w4.heap.size w4 w6) := by first | exact app_below1 hb5.out hO5.out hgr6 | exact app_below2 hb5.out hO5.out hgr6
    have HO6 : Hid (LocksO w6 w.heap.size A6 (ls.length + 1) c6 (ls ++ [⟨d, p, q⟩])) := by unfold Hid LocksO; rw [List.flatMap_append]; exact World.ownsRow.mono hown6 (by simp; omega)
    clear hown6 hgr6 hat6 hO5 hb5
    go_wp2_with fail
    refine (sortlk_any A6 (ls.length + 1) c6 w.heap.size _ w6 HO6.out (by omega) (by omega)).mono ?_
    rintro e w7 ⟨rfl, ms, hpm, hsm, hO7, hg7⟩
    go_wp2_with fail
    go_ret2
    refine ⟨.inr ⟨HR.out, A6, c6, rfl, ?_⟩, ?_⟩
    · rw [← sort_ins HINS.out hpm.out hsm.out]; exact hO7
    · have h1 := HS4.out.bl.trans (HB46.out.mono HS4.out.bl.size); exact h1.trans ⟨hg7.out.os, hg7.out.tape, hg7.out.output, hg7.out.size, fun t ht => hg7.out.block t (by have := h1.size; omega) (fun e => by have := (HO6.out.lt t e.symm).1; omega)⟩
  · go_simp
    refine hK.out _ _ (fun _ => ?_) (fun hHeld' => ?_)
    · exact ⟨cell_al2 _ HBX.out.1, cell_al2 _ HBX.out.2.1, cell_al2 _ HBX.out.2.2⟩
    replace hHeld := hHeld' rfl
    clear hHeld' hK K
    try dsimp only at hHeld
    refine wpAnyJ_oneL (k := 1) #[true, true, true, true, false, false] (by kernel_rfl) (by kernel_rfl) rfl (fun K hK => ?_)
    (go_simp; refine (clonelk_any Al ls.length c Bl ls _ (HSL4.out.drew.alloc (by simp only [World.drew]; omega) _) (by simp; omega) (by omega)).mono ?_; rintro e w5 ⟨A5, c5, rfl, hO5, hb5⟩; go_simp)
    refine hK.out _ _ (fun _ => ?_) (fun hHeld' => ?_)
    · exact ⟨keep_cell hb5.out (cell_al2 _ HBX.out.1), keep_cell hb5.out (cell_al2 _ HBX.out.2.1), keep_cell hb5.out (cell_al2 _ HBX.out.2.2)⟩
    replace hHeld := hHeld' rfl
    clear hHeld' hK K
    try dsimp only at hHeld
    refine wpAnyJ_oneL (k := 4) #[true, true, true, true, true, false] (by kernel_rfl) (by kernel_rfl) rfl (fun K hK => ?_)
    (refine step_app_d (d := some 39) (by rfl) (by rfl) (.tmp 36) (.tmp 38) (by rfl) el_lock (by rfl) hO5.out (by rfl) ((Sl.newest (w := w4.drew) (cs := #[.int .i64 d, .int .i64 p, .int .i64 q]) (T := 37) (n := 1) (size := 3) rfl (by rfl) (by decide)).below hb5.out (by simp)) (by simp [Value.oneCell']) (by omega) (by omega) (by have := hb5.out.size; simp at this ⊢; omega) ?_; intro A6 c6 w6 hown6 hgr6 hat6)
    refine hK.out _ _ (fun _ => ?_) (fun hHeld' => ?_)
    · exact ⟨keep_cell (app_below2 hb5.out hO5.out hgr6) HBX.out.1, keep_cell (app_below2 hb5.out hO5.out hgr6) HBX.out.2.1, keep_cell (app_below2 hb5.out hO5.out hgr6) HBX.out.2.2⟩
    replace hHeld := hHeld' rfl
    clear hHeld' hK K
    try dsimp only at hHeld
    refine wpAnyJ_takeL (i := 5) (d := some 9) (v := ?_) #[true, true, true, true, true, true] (by kernel_rfl) rfl rfl (by kernel_rfl) (by kernel_rfl) (by kernel_rfl) (by kernel_rfl) (by kernel_rfl) (fun _ _ _ h => h) (Or.inl ⟨by rfl, ?_⟩) hHeld ?_
    rotate_left
    · (intro w hSw; (try dsimp only at hSw);  go_simp; try with_reducible rfl)
    try simp only [Act.put, List.setIfInBounds_toArray, List.set_cons_zero, List.set_cons_succ]
    refine wpAnyJ_done (by kernel_rfl) ?_ _
    clear hHeld
    have HB46 : Hid (Below w4.heap.size w4 w6) := by first | exact app_below1 hb5.out hO5.out hgr6 | exact app_below2 hb5.out hO5.out hgr6
    have HO6 : Hid (LocksO w6 w.heap.size A6 (ls.length + 1) c6 (ls ++ [⟨d, p, q⟩])) := by unfold Hid LocksO; rw [List.flatMap_append]; exact World.ownsRow.mono hown6 (by simp; omega)
    clear hown6 hgr6 hat6 hO5 hb5
    go_wp2_with fail
    refine (sortlk_any A6 (ls.length + 1) c6 w.heap.size _ w6 HO6.out (by omega) (by omega)).mono ?_
    rintro e w7 ⟨rfl, ms, hpm, hsm, hO7, hg7⟩
    go_wp2_with fail
    go_ret2
    refine ⟨.inr ⟨HR.out, A6, c6, rfl, ?_⟩, ?_⟩
    · rw [← sort_ins HINS.out hpm.out hsm.out]; exact hO7
    · have h1 := HS4.out.bl.trans (HB46.out.mono HS4.out.bl.size); exact h1.trans ⟨hg7.out.os, hg7.out.tape, hg7.out.output, hg7.out.size, fun t ht => hg7.out.block t (by have := h1.size; omega) (fun e => by have := (HO6.out.lt t e.symm).1; omega)⟩
end Go.Proofs.YtfabeihlfgemdaaDoor
