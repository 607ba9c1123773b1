/-
  Layer 12: walks of of, device, Of, All.
-/
import Derived.Test.YtddjifkmaogpiaaDoorView2
import Derived.Laws.EntriesVeiled
namespace Go.Proofs.YtddjifkmaogpiaaDoor
open Go.RowKit
noncomputable def partsOf (nn : Nat) (ds : List Dv) (s : List Int) : List Int := Classical.epsilon (IsParts nn ds s)
noncomputable def colsOf (nn : Nat) (ds : List Dv) (s : List Int) : List Int := Classical.epsilon (IsCols nn ds s)
theorem partsOf_eq {nn : Nat} {ds : List Dv} {s p : List Int} (h : IsParts nn ds s p) : partsOf nn ds s = p := (Classical.epsilon_spec ⟨p, h⟩ : IsParts nn ds s (partsOf nn ds s)).unique h
theorem colsOf_eq {nn : Nat} {ds : List Dv} {s p : List Int} (h : IsCols nn ds s p) : colsOf nn ds s = p := (Classical.epsilon_spec ⟨p, h⟩ : IsCols nn ds s (colsOf nn ds s)).unique h
noncomputable def dutyV (kd a b : Int) (ns : List Nd) (parts op cl : List Int) : Int := if faultB kd a b cl = true then 4 else if parB kd a b parts op = true then 3 else if loadB kd a b ns parts op = true then 2 else if dOk kd a b parts op = true then 1 else 0
/-- The duty of a device. -/
noncomputable def dutyAt (nn : Nat) (ns : List Nd) (ds : List Dv) (s : List Int) (i : Int) (x : Dv) : Int := dutyV x.kind x.a x.b ns (partsOf nn ds (withL s i 1)) (colsOf nn ds (withL s i 1)) (colsOf nn ds (withL s i 2))
theorem cell_al {W : World} {p : Addr} {v : Value} (o : Obj) (h : W.cell? p = some v) : (W.alloc o).cell? p = some v := (World.cell?_alloc_lt W o p (cell_lt h)).trans h
theorem ints_far {W : World} {base n c q : Nat} {A : Option Addr} {l : List Int} (h : IntsO W base A n c l) (hq : q < base) (j : Nat) (u : Value) : IntsO (W.setCell ⟨q, j, none⟩ u) base A n c l := h.kept (grown_cell W _ _) (ne_row fun b e => by have := (h.lt b e).1; simp; omega)
def OfR (w7 : World) (f p l c : Bool) (gk : Nat) (iv : Value) (wr : World) : Prop := ∃ i : Nat, iv = .int .i64 i ∧ i ≤ 4 ∧ gk = 4 - i ∧ Hid (Below w7.heap.size w7 wr) ∧ Hid ((0 < i → f = false) ∧ (1 < i → p = false) ∧ (2 < i → l = false) ∧ (3 < i → c = false))
theorem view_set {W : World} {vb : Nat} {An Ad : Option Addr} {nn cn nd cd : Nat} {nm : ByteArray} {kd a b co : Int} {X Y Z : Value} (h : Blk W vb 74 #[.slice An nn cn, .slice Ad nd cd, .string nm, .int .i64 kd, .int .i64 a, .int .i64 b, .int .i64 co, X, Y, Z]) (P Q : Value) :
    Blk ((W.setCell ⟨vb, 7, none⟩ P).setCell ⟨vb, 8, none⟩ Q) vb 74 #[.slice An nn cn, .slice Ad nd cd, .string nm, .int .i64 kd, .int .i64 a, .int .i64 b, .int .i64 co, P, Q, Z] := (h.set 7 _).set 8 _
set_option maxRecDepth 100000 in
set_option maxHeartbeats 8000000 in
theorem of_any (An Ad As : Option Addr) (nn cn nd cd n c Bn Bd Bs i : Nat) (ns : List Nd) (ds : List Dv) (s : List Int) (x : Dv) (w : World)
    (hn : Sl w Bn 3 An nn cn (ns.flatMap Nd.cells)) (hBn : Bn ≤ w.heap.size) (hd : Sl w Bd 5 Ad nd cd (ds.flatMap Dv.cells)) (hBd : Bd ≤ w.heap.size) (hs : Sl w Bs 1 As n c (intsV s)) (hBs : Bs ≤ w.heap.size) (hnn : nn ≤ 10000) (hn1 : n ≤ 10000) (hnd : nd ≤ n) (hi : i < nd) (hx : ds[i]? = some x) (hends : EndsOk nn ds) (hA : AOk nn ds) :
    Calls Tryd.prog 30 #[.agg #[.slice An nn cn, .slice Ad nd cd], .slice As n c, .int .i64 i] w fun e w' => e = .returned (.int .i64 (dutyAt nn ns ds s i x)) ∧ Below w.heap.size w w' := by
  have HLS := Lib.hid (hs.len (fun _ => rfl) (by decide))
  have hdm := hd.le
  have hsm := hs.le
  have HN := Lib.hid hn; have HD := Lib.hid hd; have HS := Lib.hid hs; have HE := Lib.hid hends; have HA := Lib.hid hA; have HX := Lib.hid hx
  have ha0 := hA x (List.mem_of_getElem? hx)
  have HEX := Lib.hid (hends x (List.mem_of_getElem? hx))
  clear hn hd hs hends hA
  have HB0 : Hid (Below w.heap.size w (w.alloc (.cells #[.slice An nn cn, .slice Ad nd cd] 30))) := (Below.refl _ _).alloc (Nat.le_refl _) _
  have HK0 := Lib.hid (Blk.new w 30 #[.slice An nn cn, .slice Ad nd cd])
  go_enter Tryd.func30, Tryd.ntmps30
  go_upto_region 1 with (fail)
  generalize World.alloc _ _ = W at *
  obtain ⟨nb, hnb⟩ : ∃ nb, nb = w.heap.size := ⟨_, rfl⟩
  rw [← hnb] at HK0 ⊢
  have HNB := Lib.hid hnb; clear hnb
  obtain ⟨b0, off, x', rfl, hb, hx', hc⟩ := (HD.out.below HB0.out hBd).at (fun _ => rfl) (by decide) hi
  obtain rfl : x = x' := by rw [hx] at hx'; exact Option.some.inj hx'
  obtain ⟨nm, kd, a, b, co⟩ := x
  simp only at ha0 HEX
  have c0 : W.cell? ⟨b0, off + i * 5, none⟩ = some (.string nm) := hc 0 _ rfl
  have c1 : W.cell? ⟨b0, off + i * 5 + 1, none⟩ = some (.int .i64 kd) := hc 1 _ rfl
  have c2 : W.cell? ⟨b0, off + i * 5 + 2, none⟩ = some (.int .i64 a) := hc 2 _ rfl
  have c3 : W.cell? ⟨b0, off + i * 5 + 3, none⟩ = some (.int .i64 b) := hc 3 _ rfl
  have c4 : W.cell? ⟨b0, off + i * 5 + 4, none⟩ = some (.int .i64 co) := hc 4 _ rfl
  have k0 : W.cell? ⟨nb, 0, none⟩ = some (.slice An nn cn) := HK0.out.cell 0
  have k1 : W.cell? ⟨nb, 1, none⟩ = some (.slice (some ⟨b0, off, none⟩) nd cd) := HK0.out.cell 1
  clear hc hx hx'
  refine wp_region_J (S := fun W' => W'.cell? ⟨nb, 0, none⟩ = some (.slice An nn cn) ∧ W'.cell? ⟨nb, 1, none⟩ = some (.slice (some ⟨b0, off, none⟩) nd cd) ∧ W'.cell? ⟨b0, off + i * 5, none⟩ = some (.string nm) ∧ W'.cell? ⟨b0, off + i * 5 + 1, none⟩ = some (.int .i64 kd) ∧ W'.cell? ⟨b0, off + i * 5 + 2, none⟩ = some (.int .i64 a) ∧ W'.cell? ⟨b0, off + i * 5 + 3, none⟩ = some (.int .i64 b) ∧ W'.cell? ⟨b0, off + i * 5 + 4, none⟩ = some (.int .i64 co)) (J := [8]) (by kernel_rfl) ?_ (fun hHeld => ?_)
  · exact ⟨k0, k1, c0, c1, c2, c3, c4⟩
  try dsimp only at hHeld
  refine wpAnyJ_takeL (i := 0) (d := some 10) (v := ?_) #[true, false, false, false, false, false, false, false, false] (by kernel_rfl) rfl rfl (by kernel_rfl) (by kernel_rfl) (by kernel_rfl) (by kernel_rfl) (by kernel_rfl) (fun _ _ _ h => h) (Or.inl ⟨by rfl, ?_⟩) hHeld ?_
  rotate_left
  · (intro w hSw; (try dsimp only at hSw);  go_simp; try with_reducible rfl)
  try simp only [Act.put, List.setIfInBounds_toArray, List.set_cons_zero, List.set_cons_succ]
  refine wpAnyJ_takeL (i := 1) (d := some 11) (v := ?_) #[true, true, false, false, false, false, false, false, false] (by kernel_rfl) rfl rfl (by kernel_rfl) (by kernel_rfl) (by kernel_rfl) (by kernel_rfl) (by kernel_rfl) (fun _ _ _ h => h) (Or.inl ⟨by rfl, ?_⟩) hHeld ?_
  rotate_left
  · (intro w hSw; (try dsimp only at hSw);  go_simp; try with_reducible rfl)
  try simp only [Act.put, List.setIfInBounds_toArray, List.set_cons_zero, List.set_cons_succ]
  refine wpAnyJ_takeL (i := 2) (d := some 12) (v := ?_) #[true, true, true, false, false, false, false, false, false] (by kernel_rfl) rfl rfl (by kernel_rfl) (by kernel_rfl) (by kernel_rfl) (by kernel_rfl) (by kernel_rfl) (fun _ _ _ h => h) (Or.inl ⟨by rfl, ?_⟩) hHeld ?_
  rotate_left
  · (intro w hSw; (try dsimp only at hSw);  go_simp; try with_reducible rfl)
  try simp only [Act.put, List.setIfInBounds_toArray, List.set_cons_zero, List.set_cons_succ]
  refine wpAnyJ_takeL (i := 3) (d := some 13) (v := ?_) #[true, true, true, true, false, false, false, false, false] (by kernel_rfl) rfl rfl (by kernel_rfl) (by kernel_rfl) (by kernel_rfl) (by kernel_rfl) (by kernel_rfl) (fun _ _ _ h => h) (Or.inl ⟨by rfl, ?_⟩) hHeld ?_
  rotate_left
  · (intro w hSw; (try dsimp only at hSw);  go_simp; try with_reducible rfl)
  try simp only [Act.put, List.setIfInBounds_toArray, List.set_cons_zero, List.set_cons_succ]
  refine wpAnyJ_takeL (i := 4) (d := some 14) (v := ?_) #[true, true, true, true, true, false, false, false, false] (by kernel_rfl) rfl rfl (by kernel_rfl) (by kernel_rfl) (by kernel_rfl) (by kernel_rfl) (by kernel_rfl) (fun _ _ _ h => h) (Or.inl ⟨by rfl, ?_⟩) hHeld ?_
  rotate_left
  · (intro w hSw; (try dsimp only at hSw);  go_simp; try with_reducible rfl)
  try simp only [Act.put, List.setIfInBounds_toArray, List.set_cons_zero, List.set_cons_succ]
  refine wpAnyJ_takeL (i := 5) (d := some 15) (v := ?_) #[true, true, true, true, true, true, false, false, false] (by kernel_rfl) rfl rfl (by kernel_rfl) (by kernel_rfl) (by kernel_rfl) (by kernel_rfl) (by kernel_rfl) (fun _ _ _ h => h) (Or.inl ⟨by rfl, ?_⟩) hHeld ?_
  rotate_left
  · (intro w hSw; (try dsimp only at hSw);  go_simp; try with_reducible rfl)
  try simp only [Act.put, List.setIfInBounds_toArray, List.set_cons_zero, List.set_cons_succ]
  refine wpAnyJ_takeL (i := 6) (d := some 16) (v := ?_) #[true, true, true, true, true, true, true, false, false] (by kernel_rfl) rfl rfl (by kernel_rfl) (by kernel_rfl) (by kernel_rfl) (by kernel_rfl) (by kernel_rfl) (fun _ _ _ h => h) (Or.inl ⟨by rfl, ?_⟩) hHeld ?_
  rotate_left
  · (intro w hSw; (try dsimp only at hSw);  go_simp; try with_reducible rfl)
  try simp only [Act.put, List.setIfInBounds_toArray, List.set_cons_zero, List.set_cons_succ]
  refine wpAnyJ_oneL (k := 7) #[true, true, true, true, true, true, true, true, false] (by kernel_rfl) (by kernel_rfl) rfl (fun K hK => ?_)
  go_simp
  refine hK.out _ _ (fun _ => ?_) (fun hHeld' => ?_)
  · exact ⟨cell_al _ hHeld.1, cell_al _ hHeld.2.1, cell_al _ hHeld.2.2.1, cell_al _ hHeld.2.2.2.1, cell_al _ hHeld.2.2.2.2.1, cell_al _ hHeld.2.2.2.2.2.1, cell_al _ hHeld.2.2.2.2.2.2⟩
  replace hHeld := hHeld' rfl
  clear hHeld' hK K
  try dsimp only at hHeld
  refine wpAnyJ_oneL (k := 8) #[true, true, true, true, true, true, true, true, true] (by kernel_rfl) (by kernel_rfl) rfl (fun K hK => ?_)
  go_simp
  refine hK.out _ _ (fun h => by cases h) (fun _ => ?_)
  try clear hHeld
  clear hK K
  refine wpAnyJ_done (by kernel_rfl) ?_ _
  clear c0 c1 c2 c3 c4 k0 k1
  go_upto_region 2 with (fail)
  have hnbW := HK0.out.lt
  have HV1 : Hid (Blk (W.alloc (.cells #[.slice An nn cn, .slice (some ⟨b0, off, none⟩) nd cd, .string nm, .int .i64 kd, .int .i64 a, .int .i64 b, .int .i64 co, .slice none 0 0, .slice none 0 0, .slice none 0 0] 74)).drew W.heap.size 74 #[.slice An nn cn, .slice (some ⟨b0, off, none⟩) nd cd, .string nm, .int .i64 kd, .int .i64 a, .int .i64 b, .int .i64 co, .slice none 0 0, .slice none 0 0, .slice none 0 0]) := Blk.new W _ _
  have HK1 : Hid (Blk (W.alloc (.cells #[.slice An nn cn, .slice (some ⟨b0, off, none⟩) nd cd, .string nm, .int .i64 kd, .int .i64 a, .int .i64 b, .int .i64 co, .slice none 0 0, .slice none 0 0, .slice none 0 0] 74)).drew nb 30 #[.slice An nn cn, .slice (some ⟨b0, off, none⟩) nd cd]) := HK0.out.alloc _
  have HB1 : Hid (Below w.heap.size w (W.alloc (.cells #[.slice An nn cn, .slice (some ⟨b0, off, none⟩) nd cd, .string nm, .int .i64 kd, .int .i64 a, .int .i64 b, .int .i64 co, .slice none 0 0, .slice none 0 0, .slice none 0 0] 74)).drew) := (HB0.out.alloc HB0.out.size _).drew
  generalize World.drew (World.alloc _ _) = w1 at *
  obtain ⟨vb, hvb⟩ : ∃ vb, vb = W.heap.size := ⟨_, rfl⟩
  rw [← hvb] at HV1 ⊢
  have hnv : nb < vb := by omega
  have hwv : w.heap.size ≤ vb := by have := HB0.out.size; omega
  clear hvb HB0 HK0 hnbW
  refine wp_region_J (S := fun W' => Blk W' nb 30 #[.slice An nn cn, .slice (some ⟨b0, off, none⟩) nd cd]) (J := []) (by kernel_rfl) ?_ (fun hHeld => ?_)
  · exact HK1.out
  try dsimp only at hHeld
  refine wpAnyJ_takeL (i := 0) (d := some 18) (v := ?_) #[true, false, false, false, false, false, false, false, false, false, false, false] (by kernel_rfl) rfl rfl (by kernel_rfl) (by kernel_rfl) (by kernel_rfl) (by kernel_rfl) (by kernel_rfl) (fun _ _ _ h => h) (Or.inl ⟨by rfl, ?_⟩) hHeld ?_
  rotate_left
  · (intro w hSw; (try dsimp only at hSw); have k0 : w.cell? ⟨nb, 0, none⟩ = some (.slice An nn cn) := hSw.cell 0; have k1 : w.cell? ⟨nb, 1, none⟩ = some (.slice (some ⟨b0, off, none⟩) nd cd) := hSw.cell 1; clear hSw; go_simp; try with_reducible rfl)
  try simp only [Act.put, List.setIfInBounds_toArray, List.set_cons_zero, List.set_cons_succ]
  refine wpAnyJ_takeL (i := 1) (d := some 19) (v := ?_) #[true, true, false, false, false, false, false, false, false, false, false, false] (by kernel_rfl) rfl rfl (by kernel_rfl) (by kernel_rfl) (by kernel_rfl) (by kernel_rfl) (by kernel_rfl) (fun _ _ _ h => h) (Or.inl ⟨by rfl, ?_⟩) hHeld ?_
  rotate_left
  · (intro w hSw; (try dsimp only at hSw); clear hSw; go_simp; try with_reducible rfl)
  try simp only [Act.put, List.setIfInBounds_toArray, List.set_cons_zero, List.set_cons_succ]
  refine wpAnyJ_takeL (i := 2) (d := some 20) (v := ?_) #[true, true, true, false, false, false, false, false, false, false, false, false] (by kernel_rfl) rfl rfl (by kernel_rfl) (by kernel_rfl) (by kernel_rfl) (by kernel_rfl) (by kernel_rfl) (fun _ _ _ h => h) (Or.inl ⟨by rfl, ?_⟩) hHeld ?_
  rotate_left
  · (intro w hSw; (try dsimp only at hSw); clear hSw; go_simp; try with_reducible rfl)
  try simp only [Act.put, List.setIfInBounds_toArray, List.set_cons_zero, List.set_cons_succ]
  refine wpAnyJ_oneL (k := 3) #[true, true, true, true, false, false, false, false, false, false, false, false] (by kernel_rfl) (by kernel_rfl) rfl (fun K hK => ?_)
  (go_simp; refine (with_any As n c Bs s i 1 w1.drew (HS.out.below HB1.out.drew hBs) (by have := HB1.out.size; simp at this ⊢; omega) (by omega)).mono ?_; rintro e wxA ⟨AwA, cwA, rfl, hOA, hbA⟩; go_simp)
  refine hK.out _ _ (fun _ => ?_) (fun hHeld' => ?_)
  · exact hHeld.below hbA.out hHeld.lt
  replace hHeld := hHeld' rfl
  clear hHeld' hK K
  try dsimp only at hHeld
  have HB3A := Lib.hid (HB1.out.drew.trans (hbA.out.mono HB1.out.drew.size))
  have hv3A := Blk.below (w := w1.drew) HV1.out hbA.out HV1.out.lt
  have HL3A := Lib.hid hv3A.lt
  rw [withL_len, HLS.out] at hOA ⊢
  refine wpAnyJ_oneL (k := 4) #[true, true, true, true, true, false, false, false, false, false, false, false] (by kernel_rfl) (by kernel_rfl) rfl (fun K hK => ?_)
  (go_simp; refine (both_any An (some ⟨b0, off, none⟩) AwA nn cn nd cd n cwA Bd wxA.heap.size ds (withL s i 1) wxA (HD.out.below HB3A.out hBd) (by have := HB3A.out.size; omega) hOA.out.sl (Nat.le_refl _) hnn (by omega) (by omega) HE.out HA.out).mono ?_; rintro e wyA ⟨ApA, AcA, plA, clA, rfl, hOpA, hOcA, hIPA, hICA, hbbA⟩; go_simp)
  refine hK.out _ _ (fun _ => ?_) (fun hHeld' => ?_)
  · exact hHeld.below hbbA.out hHeld.lt
  replace hHeld := hHeld' rfl
  clear hHeld' hK K
  try dsimp only at hHeld
  have HB4A := Lib.hid (HB3A.out.trans (hbbA.out.mono HB3A.out.size))
  have HV4A := Lib.hid (hv3A.below hbbA.out hv3A.lt)
  have z7 : wyA.cell? ⟨vb, 7, none⟩ = some (.slice none 0 0) := HV4A.out.cell 7
  have z8 : wyA.cell? ⟨vb, 8, none⟩ = some (.slice none 0 0) := HV4A.out.cell 8
  have f7 := HV4A.out.frozen 7
  have f8 := HV4A.out.frozen 8
  refine wpAnyJ_takeL (i := 5) (d := some 17) (v := ?_) #[true, true, true, true, true, true, false, false, false, false, false, false] (by kernel_rfl) rfl rfl (by kernel_rfl) (by kernel_rfl) (by kernel_rfl) (by kernel_rfl) (by kernel_rfl) (fun _ _ _ h => h) (Or.inl ⟨by rfl, ?_⟩) hHeld ?_
  rotate_left
  · (intro w hSw; (try dsimp only at hSw); clear hSw; go_simp; try with_reducible rfl)
  try simp only [Act.put, List.setIfInBounds_toArray, List.set_cons_zero, List.set_cons_succ]
  refine wpAnyJ_takeL (i := 6) (d := some 23) (v := ?_) #[true, true, true, true, true, true, true, false, false, false, false, false] (by kernel_rfl) rfl rfl (by kernel_rfl) (by kernel_rfl) (by kernel_rfl) (by kernel_rfl) (by kernel_rfl) (fun _ _ _ h => h) (Or.inl ⟨by rfl, ?_⟩) hHeld ?_
  rotate_left
  · (intro w hSw; (try dsimp only at hSw); clear hSw; go_simp; try with_reducible rfl)
  try simp only [Act.put, List.setIfInBounds_toArray, List.set_cons_zero, List.set_cons_succ]
  refine wpAnyJ_takeL (i := 7) (d := some 24) (v := ?_) #[true, true, true, true, true, true, true, true, false, false, false, false] (by kernel_rfl) rfl rfl (by kernel_rfl) (by kernel_rfl) (by kernel_rfl) (by kernel_rfl) (by kernel_rfl) (fun _ _ _ h => h) (Or.inl ⟨by rfl, ?_⟩) hHeld ?_
  rotate_left
  · (intro w hSw; (try dsimp only at hSw); clear hSw; go_simp; try with_reducible rfl)
  try simp only [Act.put, List.setIfInBounds_toArray, List.set_cons_zero, List.set_cons_succ]
  refine wpAnyJ_takeL (i := 8) (d := some 25) (v := ?_) #[true, true, true, true, true, true, true, true, true, false, false, false] (by kernel_rfl) rfl rfl (by kernel_rfl) (by kernel_rfl) (by kernel_rfl) (by kernel_rfl) (by kernel_rfl) (fun _ _ _ h => h) (Or.inl ⟨by rfl, ?_⟩) hHeld ?_
  rotate_left
  · (intro w hSw; (try dsimp only at hSw); clear hSw; go_simp; try with_reducible rfl)
  try simp only [Act.put, List.setIfInBounds_toArray, List.set_cons_zero, List.set_cons_succ]
  refine wpAnyJ_oneL (k := 9) #[true, true, true, true, true, true, true, true, true, true, false, false] (by kernel_rfl) (by kernel_rfl) rfl (fun K hK => ?_)
  go_simp
  refine hK.out _ _ (fun _ => ?_) (fun hHeld' => ?_)
  · exact hHeld.far (by simp; omega) _
  replace hHeld := hHeld' rfl
  clear hHeld' hK K
  try dsimp only at hHeld
  refine wpAnyJ_takeL (i := 10) (d := some 26) (v := ?_) #[true, true, true, true, true, true, true, true, true, true, true, false] (by kernel_rfl) rfl rfl (by kernel_rfl) (by kernel_rfl) (by kernel_rfl) (by kernel_rfl) (by kernel_rfl) (fun _ _ _ h => h) (Or.inl ⟨by rfl, ?_⟩) hHeld ?_
  rotate_left
  · (intro w hSw; (try dsimp only at hSw); clear hSw; go_simp; try with_reducible rfl)
  try simp only [Act.put, List.setIfInBounds_toArray, List.set_cons_zero, List.set_cons_succ]
  refine wpAnyJ_oneL (k := 11) #[true, true, true, true, true, true, true, true, true, true, true, true] (by kernel_rfl) (by kernel_rfl) rfl (fun K hK => ?_)
  go_simp
  refine hK.out _ _ (fun _ => ?_) (fun hHeld' => ?_)
  · exact hHeld.far (by simp; omega) _
  replace hHeld := hHeld' rfl
  clear hHeld' hK K
  try dsimp only at hHeld
  refine wpAnyJ_done (by kernel_rfl) ?_ _
  have HK5 := Lib.hid hHeld
  clear hHeld z7 z8 f7 f8
  go_upto_region 3 with (fail)
  have HV5 := Lib.hid (view_set HV4A.out (.slice ApA nn nn) (.slice AcA nn nn))
  have HB5 : Hid (Below w.heap.size w ((wyA.setCell ⟨vb, 7, none⟩ (.slice ApA nn nn)).setCell ⟨vb, 8, none⟩ (.slice AcA nn nn))) := (HB4A.out.setCell (by simp; omega) _).setCell (by simp; omega) _
  have HOP5 := Lib.hid (ints_far (ints_far hOpA.out HL3A.out 7 (.slice ApA nn nn)) HL3A.out 8 (.slice AcA nn nn))
  have HOO5 := Lib.hid (ints_far (ints_far hOcA.out HL3A.out 7 (.slice ApA nn nn)) HL3A.out 8 (.slice AcA nn nn))
  clear HB3A HB4A HV4A hOpA hOcA HV1 HB1 HK1 hbbA
  clear hbA hOA hv3A
  generalize World.setCell (World.setCell _ _ _) _ _ = w5 at *
  refine wp_region_J (S := fun W' => Blk W' nb 30 #[.slice An nn cn, .slice (some ⟨b0, off, none⟩) nd cd]) (J := []) (by kernel_rfl) ?_ (fun hHeld => ?_)
  · exact HK5.out
  try dsimp only at hHeld
  refine wpAnyJ_takeL (i := 0) (d := some 28) (v := ?_) #[true, false, false, false, false, false, false, false, false, false] (by kernel_rfl) rfl rfl (by kernel_rfl) (by kernel_rfl) (by kernel_rfl) (by kernel_rfl) (by kernel_rfl) (fun _ _ _ h => h) (Or.inl ⟨by rfl, ?_⟩) hHeld ?_
  rotate_left
  · (intro w hSw; (try dsimp only at hSw); have k0 : w.cell? ⟨nb, 0, none⟩ = some (.slice An nn cn) := hSw.cell 0; have k1 : w.cell? ⟨nb, 1, none⟩ = some (.slice (some ⟨b0, off, none⟩) nd cd) := hSw.cell 1; clear hSw; go_simp; try with_reducible rfl)
  try simp only [Act.put, List.setIfInBounds_toArray, List.set_cons_zero, List.set_cons_succ]
  refine wpAnyJ_takeL (i := 1) (d := some 29) (v := ?_) #[true, true, false, false, false, false, false, false, false, false] (by kernel_rfl) rfl rfl (by kernel_rfl) (by kernel_rfl) (by kernel_rfl) (by kernel_rfl) (by kernel_rfl) (fun _ _ _ h => h) (Or.inl ⟨by rfl, ?_⟩) hHeld ?_
  rotate_left
  · (intro w hSw; (try dsimp only at hSw); clear hSw; go_simp; try with_reducible rfl)
  try simp only [Act.put, List.setIfInBounds_toArray, List.set_cons_zero, List.set_cons_succ]
  refine wpAnyJ_takeL (i := 2) (d := some 30) (v := ?_) #[true, true, true, false, false, false, false, false, false, false] (by kernel_rfl) rfl rfl (by kernel_rfl) (by kernel_rfl) (by kernel_rfl) (by kernel_rfl) (by kernel_rfl) (fun _ _ _ h => h) (Or.inl ⟨by rfl, ?_⟩) hHeld ?_
  rotate_left
  · (intro w hSw; (try dsimp only at hSw); clear hSw; go_simp; try with_reducible rfl)
  try simp only [Act.put, List.setIfInBounds_toArray, List.set_cons_zero, List.set_cons_succ]
  refine wpAnyJ_oneL (k := 3) #[true, true, true, true, false, false, false, false, false, false] (by kernel_rfl) (by kernel_rfl) rfl (fun K hK => ?_)
  (go_simp; refine (with_any As n c Bs s i 2 w5.drew (HS.out.below HB5.out.drew hBs) (by have := HB5.out.size; simp at this ⊢; omega) (by omega)).mono ?_; rintro e wxB ⟨AwB, cwB, rfl, hOB, hbB⟩; go_simp)
  refine hK.out _ _ (fun _ => ?_) (fun hHeld' => ?_)
  · exact hHeld.below hbB.out hHeld.lt
  replace hHeld := hHeld' rfl
  clear hHeld' hK K
  try dsimp only at hHeld
  have HB3B := Lib.hid (HB5.out.drew.trans (hbB.out.mono HB5.out.drew.size))
  have hv3B := Blk.below (w := w5.drew) HV5.out hbB.out HV5.out.lt
  have HL3B := Lib.hid hv3B.lt
  rw [withL_len, HLS.out] at hOB ⊢
  refine wpAnyJ_oneL (k := 4) #[true, true, true, true, true, false, false, false, false, false] (by kernel_rfl) (by kernel_rfl) rfl (fun K hK => ?_)
  (go_simp; refine (both_any An (some ⟨b0, off, none⟩) AwB nn cn nd cd n cwB Bd wxB.heap.size ds (withL s i 2) wxB (HD.out.below HB3B.out hBd) (by have := HB3B.out.size; omega) hOB.out.sl (Nat.le_refl _) hnn (by omega) (by omega) HE.out HA.out).mono ?_; rintro e wyB ⟨ApB, AcB, plB, clB, rfl, hOpB, hOcB, hIPB, hICB, hbbB⟩; go_simp)
  refine hK.out _ _ (fun _ => ?_) (fun hHeld' => ?_)
  · exact hHeld.below hbbB.out hHeld.lt
  replace hHeld := hHeld' rfl
  clear hHeld' hK K
  try dsimp only at hHeld
  have HB4B := Lib.hid (HB3B.out.trans (hbbB.out.mono HB3B.out.size))
  have HV4B := Lib.hid (hv3B.below hbbB.out hv3B.lt)
  have HOP6 := Lib.hid ((IntsO.later (w := w5.drew) HOP5.out hbB.out).later hbbB.out)
  have HOO6 := Lib.hid ((IntsO.later (w := w5.drew) HOO5.out hbB.out).later hbbB.out)
  clear hv3B hOB hbB
  have z9 : wyB.cell? ⟨vb, 9, none⟩ = some (.slice none 0 0) := HV4B.out.cell 9
  have f9 := HV4B.out.frozen 9
  refine wpAnyJ_takeL (i := 5) (d := some 27) (v := ?_) #[true, true, true, true, true, true, false, false, false, false] (by kernel_rfl) rfl rfl (by kernel_rfl) (by kernel_rfl) (by kernel_rfl) (by kernel_rfl) (by kernel_rfl) (fun _ _ _ h => h) (Or.inl ⟨by rfl, ?_⟩) hHeld ?_
  rotate_left
  · (intro w hSw; (try dsimp only at hSw); clear hSw; go_simp; try with_reducible rfl)
  try simp only [Act.put, List.setIfInBounds_toArray, List.set_cons_zero, List.set_cons_succ]
  refine wpAnyJ_takeL (i := 6) (d := some 33) (v := ?_) #[true, true, true, true, true, true, true, false, false, false] (by kernel_rfl) rfl rfl (by kernel_rfl) (by kernel_rfl) (by kernel_rfl) (by kernel_rfl) (by kernel_rfl) (fun _ _ _ h => h) (Or.inl ⟨by rfl, ?_⟩) hHeld ?_
  rotate_left
  · (intro w hSw; (try dsimp only at hSw); clear hSw; go_simp; try with_reducible rfl)
  try simp only [Act.put, List.setIfInBounds_toArray, List.set_cons_zero, List.set_cons_succ]
  refine wpAnyJ_takeL (i := 7) (d := some 34) (v := ?_) #[true, true, true, true, true, true, true, true, false, false] (by kernel_rfl) rfl rfl (by kernel_rfl) (by kernel_rfl) (by kernel_rfl) (by kernel_rfl) (by kernel_rfl) (fun _ _ _ h => h) (Or.inl ⟨by rfl, ?_⟩) hHeld ?_
  rotate_left
  · (intro w hSw; (try dsimp only at hSw); clear hSw; go_simp; try with_reducible rfl)
  try simp only [Act.put, List.setIfInBounds_toArray, List.set_cons_zero, List.set_cons_succ]
  refine wpAnyJ_takeL (i := 8) (d := some 35) (v := ?_) #[true, true, true, true, true, true, true, true, true, false] (by kernel_rfl) rfl rfl (by kernel_rfl) (by kernel_rfl) (by kernel_rfl) (by kernel_rfl) (by kernel_rfl) (fun _ _ _ h => h) (Or.inl ⟨by rfl, ?_⟩) hHeld ?_
  rotate_left
  · (intro w hSw; (try dsimp only at hSw); clear hSw; go_simp; try with_reducible rfl)
  try simp only [Act.put, List.setIfInBounds_toArray, List.set_cons_zero, List.set_cons_succ]
  refine wpAnyJ_oneL (k := 9) #[true, true, true, true, true, true, true, true, true, true] (by kernel_rfl) (by kernel_rfl) rfl (fun K hK => ?_)
  go_simp
  refine hK.out _ _ (fun _ => ?_) (fun hHeld' => ?_)
  · exact hHeld.far (by simp; omega) _
  replace hHeld := hHeld' rfl
  clear hHeld' hK K
  try dsimp only at hHeld
  refine wpAnyJ_done (by kernel_rfl) ?_ _
  clear hHeld z9 f9
  have HV6 := Lib.hid (HV4B.out.set 9 (.slice AcB nn nn))
  have HB6 : Hid (Below w.heap.size w (wyB.setCell ⟨vb, 9, none⟩ (.slice AcB nn nn))) := HB4B.out.setCell (by simp; omega) _
  have HOP7 := Lib.hid (ints_far HOP6.out HL3A.out 9 (.slice AcB nn nn))
  have HOO7 := Lib.hid (ints_far HOO6.out HL3A.out 9 (.slice AcB nn nn))
  have HOC7 := Lib.hid (ints_far hOcB.out HL3B.out 9 (.slice AcB nn nn))
  clear HB3B HB4B HV4B hOpB hOcB HV5 HB5 HK5 hbbB HOP6 HOO6 HOP5 HOO5
  go_wp2_with fail
  have HT7 := Lib.hid (Blk.new (wyB.setCell ⟨vb, 9, none⟩ (.slice AcB nn nn)) 78 #[.func (.func 44) #[] #[], .int .i64 4, .func (.func 45) #[] #[], .int .i64 3, .func (.func 46) #[] #[], .int .i64 2, .func (.func 47) #[] #[], .int .i64 1])
  have HV7 := Lib.hid (HV6.out.alloc (.cells #[.func (.func 44) #[] #[], .int .i64 4, .func (.func 45) #[] #[], .int .i64 3, .func (.func 46) #[] #[], .int .i64 2, .func (.func 47) #[] #[], .int .i64 1] 78))
  have HB7 := Lib.hid (HB6.out.alloc HB6.out.size (.cells #[.func (.func 44) #[] #[], .int .i64 4, .func (.func 45) #[] #[], .int .i64 3, .func (.func 46) #[] #[], .int .i64 2, .func (.func 47) #[] #[], .int .i64 1] 78))
  have HOK7 : Hid (VwOk ((wyB.setCell ⟨vb, 9, none⟩ (.slice AcB nn nn)).alloc (.cells #[.func (.func 44) #[] #[], .int .i64 4, .func (.func 45) #[] #[], .int .i64 3, .func (.func 46) #[] #[], .int .i64 2, .func (.func 47) #[] #[], .int .i64 1] 78)) nn kd a b ApA AcA AcB plA clA clB) := by
    have hl : Below (wyB.setCell ⟨vb, 9, none⟩ (.slice AcB nn nn)).heap.size (wyB.setCell ⟨vb, 9, none⟩ (.slice AcB nn nn)) ((wyB.setCell ⟨vb, 9, none⟩ (.slice AcB nn nn)).alloc (.cells #[.func (.func 44) #[] #[], .int .i64 4, .func (.func 45) #[] #[], .int .i64 3, .func (.func 46) #[] #[], .int .i64 2, .func (.func 47) #[] #[], .int .i64 1] 78)) := (Below.refl _ _).alloc (Nat.le_refl _) _
    exact ⟨(HOP7.out.later hl).sl, (HOO7.out.later hl).sl, (HOC7.out.later hl).sl, ha0, fun hj => (HEX.out hj).2, hnn⟩
  have HDV : Hid (dutyAt nn ns ds s i ⟨nm, kd, a, b, co⟩ = dutyV kd a b ns plA clA clB) := by unfold Hid dutyAt; rw [partsOf_eq hIPA.out, colsOf_eq hICA.out, colsOf_eq hICB.out]
  clear HV6 HB6 HOP7 HOO7 HOC7 hIPA hICA hICB hIPB
  rw [World.size_setCell] at HT7
  generalize World.alloc _ _ = w7 at *
  obtain ⟨tb, htb⟩ : ∃ tb, tb = wyB.heap.size := ⟨_, rfl⟩
  rw [← htb] at HT7 ⊢
  clear htb
  have HDU : Hid (dutyV kd a b ns plA clA clB = if faultB kd a b clB = true then 4 else if parB kd a b plA clA = true then 3 else if loadB kd a b ns plA clA = true then 2 else if dOk kd a b plA clA = true then 1 else 0) := rfl
  have HCF := Lib.hid (fun W h => fault_any An (some ⟨b0, off, none⟩) ApA AcA AcB nn cn nd cd nm kd a b co plA clA clB W h)
  have HCP := Lib.hid (fun W h => parallel_any An (some ⟨b0, off, none⟩) ApA AcA AcB nn cn nd cd nm kd a b co plA clA clB W h)
  have HCL := Lib.hid (fun W h h2 => load_any An (some ⟨b0, off, none⟩) ApA AcA AcB nn cn nd cd nm kd a b co ns plA clA clB W h h2)
  have HCC := Lib.hid (fun W h => charging_any An (some ⟨b0, off, none⟩) ApA AcA AcB nn cn nd cd nm kd a b co plA clA clB W h)
  simp only [vwC] at HCF HCP HCL HCC
  generalize faultB kd a b clB = fb at *
  generalize parB kd a b plA clA = pb at *
  generalize loadB kd a b ns plA clA = lb at *
  generalize dOk kd a b plA clA = kb at *
  go_loopg [42] 4 (OfR w7 fb pb lb kb)
  case atStart => exact ⟨0, rfl, by decide, rfl, Below.refl _ _, by unfold Hid; refine ⟨?_, ?_, ?_, ?_⟩ <;> intro h <;> omega⟩
  case round =>
    obtain ⟨k, rfl, hk, rfl, hbl, hcond⟩ := hrel
    have hv := Lib.hid (HV7.out.below hbl.out HV7.out.lt)
    have ht := Lib.hid (HT7.out.below hbl.out HT7.out.lt)
    have hok := Lib.hid (HOK7.out.later hbl.out)
    have hbw := Lib.hid (HB7.out.trans (hbl.out.mono HB7.out.size))
    have hzw := hbl.out.size
    have g0 : wr.cell? ⟨vb, 0, none⟩ = some (.slice An nn cn) := hv.out.cell 0
    have g1 : wr.cell? ⟨vb, 1, none⟩ = some (.slice (some ⟨b0, off, none⟩) nd cd) := hv.out.cell 1
    have g2 : wr.cell? ⟨vb, 2, none⟩ = some (.string nm) := hv.out.cell 2
    have g3 : wr.cell? ⟨vb, 3, none⟩ = some (.int .i64 kd) := hv.out.cell 3
    have g4 : wr.cell? ⟨vb, 4, none⟩ = some (.int .i64 a) := hv.out.cell 4
    have g5 : wr.cell? ⟨vb, 5, none⟩ = some (.int .i64 b) := hv.out.cell 5
    have g6 : wr.cell? ⟨vb, 6, none⟩ = some (.int .i64 co) := hv.out.cell 6
    have g7 : wr.cell? ⟨vb, 7, none⟩ = some (.slice ApA nn nn) := hv.out.cell 7
    have g8 : wr.cell? ⟨vb, 8, none⟩ = some (.slice AcA nn nn) := hv.out.cell 8
    have g9 : wr.cell? ⟨vb, 9, none⟩ = some (.slice AcB nn nn) := hv.out.cell 9
    have hvl := hv.out.lt
    rcases (show k = 0 ∨ k = 1 ∨ k = 2 ∨ k = 3 ∨ k = 4 by omega) with rfl | rfl | rfl | rfl | rfl
    · have t0 : wr.cell? ⟨tb, 0, none⟩ = some (.func (.func 44) #[] #[]) := ht.out.cell 0
      have t1 : wr.cell? ⟨tb, 1, none⟩ = some (.int .i64 4) := ht.out.cell 1
      go_wp2_with fail
      clear g0 g1 g2 g3 g4 g5 g6 g7 g8 g9 t0 t1
      have hb8 : Below wr.heap.size wr (wr.alloc (.cells #[.func (.func 44) #[] #[], .int .i64 4] 78)) := (Below.refl _ _).alloc (Nat.le_refl _) _
      have HK8 := Lib.hid (Blk.new wr 78 #[.func (.func 44) #[] #[], .int .i64 4])
      generalize World.alloc _ _ = w8 at *
      refine (HCF.out w8 (hok.out.later hb8)).mono ?_
      rintro e w9 ⟨rfl, hb9⟩
      have HB9 := Lib.hid (hbl.out.trans ((hb8.trans (hb9.mono hb8.size)).mono hzw))
      have hb1 : w9.cell? ⟨wr.heap.size, 1, none⟩ = some (.int .i64 4) := (HK8.out.below hb9 HK8.out.lt).cell 1
      clear hb8 hb9 HK8
      rcases fb with _ | _
      · clear hb1
        go_wp2_with fail
        go_roundg (4 - 1)
        case rel => exact ⟨1, rfl, by decide, rfl, HB9, by have hc := hcond.out; unfold Hid; refine ⟨?_, ?_, ?_, ?_⟩ <;> intro h <;> first | rfl | exact hc.1 (by omega) | exact hc.2.1 (by omega) | exact hc.2.2.1 (by omega) | omega⟩
        case measure => decide
      · go_wp2_with fail
        go_ret
        exact ⟨ret_int (by rw [HDV.out, HDU.out]; simp), HB7.out.trans (HB9.out.mono HB7.out.size)⟩
    · have t0 : wr.cell? ⟨tb, 2, none⟩ = some (.func (.func 45) #[] #[]) := ht.out.cell 2
      have t1 : wr.cell? ⟨tb, 3, none⟩ = some (.int .i64 3) := ht.out.cell 3
      go_wp2_with fail
      clear g0 g1 g2 g3 g4 g5 g6 g7 g8 g9 t0 t1
      have hb8 : Below wr.heap.size wr (wr.alloc (.cells #[.func (.func 45) #[] #[], .int .i64 3] 78)) := (Below.refl _ _).alloc (Nat.le_refl _) _
      have HK8 := Lib.hid (Blk.new wr 78 #[.func (.func 45) #[] #[], .int .i64 3])
      generalize World.alloc _ _ = w8 at *
      refine (HCP.out w8 (hok.out.later hb8)).mono ?_
      rintro e w9 ⟨rfl, hb9⟩
      have HB9 := Lib.hid (hbl.out.trans ((hb8.trans (hb9.mono hb8.size)).mono hzw))
      have hb1 : w9.cell? ⟨wr.heap.size, 1, none⟩ = some (.int .i64 3) := (HK8.out.below hb9 HK8.out.lt).cell 1
      clear hb8 hb9 HK8
      rcases pb with _ | _
      · clear hb1
        go_wp2_with fail
        go_roundg (4 - 2)
        case rel => exact ⟨2, rfl, by decide, rfl, HB9, by have hc := hcond.out; unfold Hid; refine ⟨?_, ?_, ?_, ?_⟩ <;> intro h <;> first | rfl | exact hc.1 (by omega) | exact hc.2.1 (by omega) | exact hc.2.2.1 (by omega) | omega⟩
        case measure => decide
      · go_wp2_with fail
        go_ret
        exact ⟨ret_int (by rw [HDV.out, HDU.out]; simp [hcond.out.1 (by decide)]), HB7.out.trans (HB9.out.mono HB7.out.size)⟩
    · have t0 : wr.cell? ⟨tb, 4, none⟩ = some (.func (.func 46) #[] #[]) := ht.out.cell 4
      have t1 : wr.cell? ⟨tb, 5, none⟩ = some (.int .i64 2) := ht.out.cell 5
      go_wp2_with fail
      clear g0 g1 g2 g3 g4 g5 g6 g7 g8 g9 t0 t1
      have hb8 : Below wr.heap.size wr (wr.alloc (.cells #[.func (.func 46) #[] #[], .int .i64 2] 78)) := (Below.refl _ _).alloc (Nat.le_refl _) _
      have HK8 := Lib.hid (Blk.new wr 78 #[.func (.func 46) #[] #[], .int .i64 2])
      generalize World.alloc _ _ = w8 at *
      refine (HCL.out w8 (hok.out.later hb8) (((HN.out.below hbw.out hBn).more (by have := hbw.out.size; omega)).below hb8 (Nat.le_refl _) |> fun h => h.more hb8.size)).mono ?_
      rintro e w9 ⟨rfl, hb9⟩
      have HB9 := Lib.hid (hbl.out.trans ((hb8.trans (hb9.mono hb8.size)).mono hzw))
      have hb1 : w9.cell? ⟨wr.heap.size, 1, none⟩ = some (.int .i64 2) := (HK8.out.below hb9 HK8.out.lt).cell 1
      clear hb8 hb9 HK8
      rcases lb with _ | _
      · clear hb1
        go_wp2_with fail
        go_roundg (4 - 3)
        case rel => exact ⟨3, rfl, by decide, rfl, HB9, by have hc := hcond.out; unfold Hid; refine ⟨?_, ?_, ?_, ?_⟩ <;> intro h <;> first | rfl | exact hc.1 (by omega) | exact hc.2.1 (by omega) | exact hc.2.2.1 (by omega) | omega⟩
        case measure => decide
      · go_wp2_with fail
        go_ret
        exact ⟨ret_int (by rw [HDV.out, HDU.out]; simp [hcond.out.1 (by decide), hcond.out.2.1 (by decide)]), HB7.out.trans (HB9.out.mono HB7.out.size)⟩
    · have t0 : wr.cell? ⟨tb, 6, none⟩ = some (.func (.func 47) #[] #[]) := ht.out.cell 6
      have t1 : wr.cell? ⟨tb, 7, none⟩ = some (.int .i64 1) := ht.out.cell 7
      go_wp2_with fail
      clear g0 g1 g2 g3 g4 g5 g6 g7 g8 g9 t0 t1
      have hb8 : Below wr.heap.size wr (wr.alloc (.cells #[.func (.func 47) #[] #[], .int .i64 1] 78)) := (Below.refl _ _).alloc (Nat.le_refl _) _
      have HK8 := Lib.hid (Blk.new wr 78 #[.func (.func 47) #[] #[], .int .i64 1])
      generalize World.alloc _ _ = w8 at *
      refine (HCC.out w8 (hok.out.later hb8)).mono ?_
      rintro e w9 ⟨rfl, hb9⟩
      have HB9 := Lib.hid (hbl.out.trans ((hb8.trans (hb9.mono hb8.size)).mono hzw))
      have hb1 : w9.cell? ⟨wr.heap.size, 1, none⟩ = some (.int .i64 1) := (HK8.out.below hb9 HK8.out.lt).cell 1
      clear hb8 hb9 HK8
      rcases kb with _ | _
      · clear hb1
        go_wp2_with fail
        go_roundg (4 - 4)
        case rel => exact ⟨4, rfl, by decide, rfl, HB9, by have hc := hcond.out; unfold Hid; refine ⟨?_, ?_, ?_, ?_⟩ <;> intro h <;> first | rfl | exact hc.1 (by omega) | exact hc.2.1 (by omega) | exact hc.2.2.1 (by omega) | omega⟩
        case measure => decide
      · go_wp2_with fail
        go_ret
        exact ⟨ret_int (by rw [HDV.out, HDU.out]; simp [hcond.out.1 (by decide), hcond.out.2.1 (by decide), hcond.out.2.2.1 (by decide)]), HB7.out.trans (HB9.out.mono HB7.out.size)⟩
    · go_wp2_with fail
      go_ret
      exact ⟨ret_int (by rw [HDV.out, HDU.out]; simp [hcond.out.1 (by decide), hcond.out.2.1 (by decide), hcond.out.2.2.1 (by decide), hcond.out.2.2.2 (by decide)]), hbw.out⟩
end Go.Proofs.YtddjifkmaogpiaaDoor
