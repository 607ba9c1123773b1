import Derived.Test.YtlcaebfjdhgcfaaDoorZ16
import Derived.Test.YtlcaebfjdhgcfaaDoorZ18
import Derived.Test.YtlcaebfjdhgcfaaDoorZ19
import Derived.Test.YtlcaebfjdhgcfaaDoorZ20
/-
  The program's field: a lock is set.
-/
namespace Go.Proofs.YtlcaebfjdhgcfaaDoor
open Go.RowKit
/-- What a function of the scene returns. -/
def ScPost (w : World) (B sb : Nat) (An : Option Addr) (nn cn : Nat) (Ad : Option Addr) (nd cd : Nat) (k d p q : Int) (lk sk : Bool) (E : Int) (G : Fd) (e : Ending) (w' : World) : Prop :=
  e = .returned (.int .i64 E) ∧ ∃ F', ScTo w B sb An nn cn Ad nd cd k d p q lk sk F' w' ∧ (E = 0 → F' = G)
theorem ladd_uni (An Ad Al : Option Addr) (nn cn nd cd c Bn Bd Bl : Nat) (ns : List Nd) (ds : List Dv) (ls : List Lk) (d p q : Int) (w : World) (hla : Laid w) (hn : Sl w Bn 3 An nn cn (ns.flatMap Nd.cells)) (hd : Sl w Bd 5 Ad nd cd (ds.flatMap Dv.cells)) (hs : Sl w Bl 3 Al ls.length c (ls.flatMap Lk.cells)) (hBn : Bn ≤ w.heap.size) (hBd : Bd ≤ w.heap.size) (hBl : Bl ≤ w.heap.size)
    (hsn : ∀ x ∈ ns, x.name.size ≤ 9223372036854775807) (hsd : ∀ x ∈ ds, x.name.size ≤ 9223372036854775807) :
    Calls Tryd.prog 61 #[.agg #[.slice An nn cn, .slice Ad nd cd], .slice Al ls.length c, .agg #[.int .i64 d, .int .i64 p, .int .i64 q]] w fun e w' => ∃ (A' : Option Addr) (n' c' : Nat) (l' : List Lk), e = .returned (.tuple #[.slice A' n' c', .int .i64 (addErr ns ds ls ⟨d, p, q⟩)]) ∧ Hid (Sl w' w'.heap.size 3 A' n' c' (l'.flatMap Lk.cells)) ∧ Hid (∀ b off, A' = some ⟨b, off, none⟩ → w.heap.size ≤ b) ∧ Hid (n' ≤ ls.length + 1) ∧ Hid (addErr ns ds ls ⟨d, p, q⟩ = 0 → l' = insL ⟨d, p, q⟩ ls) ∧ Hid (Below w.heap.size w w') := by
  refine (ladd_any An Ad Al nn cn nd cd c Bn Bd Bl ns ds ls d p q w hla hn hd hs hBn hBd hBl hsn hsd).mono ?_
  rintro e w' ⟨⟨h1, rfl⟩ | ⟨h1, A', c', rfl, hO⟩, hb⟩
  · exact ⟨none, 0, 0, [], rfl, Sl.nil _ _ _, (fun _ _ e => by cases e), Nat.zero_le _, fun h => absurd h h1, hb⟩
  · exact ⟨A', _, c', _, by rw [h1], hO.out.sl, fun b off e => (World.ownsRow.lt hO.out b (by rw [e]; rfl)).1, Nat.le_refl _, fun _ => rfl, hb⟩
theorem lremove_uni (An Ad Al : Option Addr) (nn cn nd cd c Bn Bd Bl : Nat) (ns : List Nd) (ds : List Dv) (ls : List Lk) (d q : Int) (w : World) (h0 : locksErr ns ds ls = 0) (hla : Laid w) (hn : Sl w Bn 3 An nn cn (ns.flatMap Nd.cells)) (hd : Sl w Bd 5 Ad nd cd (ds.flatMap Dv.cells)) (hs : Sl w Bl 3 Al ls.length c (ls.flatMap Lk.cells)) (hBn : Bn ≤ w.heap.size) (hBd : Bd ≤ w.heap.size) (hBl : Bl ≤ w.heap.size)
    (hsn : ∀ x ∈ ns, x.name.size ≤ 9223372036854775807) (hsd : ∀ x ∈ ds, x.name.size ≤ 9223372036854775807) :
    Calls Tryd.prog 43 #[.agg #[.slice An nn cn, .slice Ad nd cd], .slice Al ls.length c, .int .i64 d, .int .i64 q] w fun e w' => ∃ (A' : Option Addr) (n' c' : Nat) (l' : List Lk), e = .returned (.tuple #[.slice A' n' c', .int .i64 (if idxL d q ls = none then 15 else 0)]) ∧ Hid (Sl w' w'.heap.size 3 A' n' c' (l'.flatMap Lk.cells)) ∧ Hid (∀ b off, A' = some ⟨b, off, none⟩ → w.heap.size ≤ b) ∧ Hid (n' ≤ ls.length + 1) ∧ Hid (idxL d q ls ≠ none → l' = (match idxL d q ls with | some i => ls.eraseIdx i | none => ls)) ∧ Hid (Below w.heap.size w w') := by
  refine (lremove_any An Ad Al nn cn nd cd c Bn Bd Bl ns ds ls d q w hla hn hd hs hBn hBd hBl hsn hsd).mono ?_
  rintro e w' ⟨⟨h1, _⟩ | ⟨_, h1, rfl⟩ | ⟨_, i, A', c', h1, rfl, hO⟩, hb⟩
  · exact absurd h0 h1
  · exact ⟨none, 0, 0, [], by rw [if_pos h1], Sl.nil _ _ _, (fun _ _ e => by cases e), Nat.zero_le _, fun h => absurd h1 h, hb⟩
  · exact ⟨A', _, c', _, by rw [if_neg (by rw [h1]; simp)], hO.out.sl, fun b off e => (World.ownsRow.lt hO.out b (by rw [e]; rfl)).1, (show ls.length - 1 ≤ ls.length + 1 by omega), fun _ => by rw [h1], hb⟩
/-- The cells that are read ahead of a store. -/
theorem sc_cells {w : World} {sb nn cn nd cd n c nl cl nt ct : Nat} {An Ad As Al At : Option Addr} {k d p q : Int} {lk sk : Bool} (h : Blk w sb 65 (scV An nn cn Ad nd cd As n c Al nl cl At nt ct k d p q lk sk)) :
    w.cell? ⟨sb, 0, none⟩ = some (.slice An nn cn) ∧ w.cell? ⟨sb, 1, none⟩ = some (.slice Ad nd cd) ∧ w.cell? ⟨sb, 3, none⟩ = some (.slice Al nl cl) ∧ w.cell? ⟨sb, 6, none⟩ = some (.int .i64 d) ∧ w.cell? ⟨sb, 7, none⟩ = some (.int .i64 p) ∧ w.cell? ⟨sb, 8, none⟩ = some (.int .i64 q) := by
  unfold scV at h
  exact ⟨h.cell 0, h.cell 1, h.cell 3, h.cell 6, h.cell 7, h.cell 8⟩
/-- New locks are stored. -/
theorem ScAt.locks {w w1 : World} {B sb nn cn nd cd n c nl cl nt ct n' c' : Nat} {An Ad As Al At A' : Option Addr} {ns : List Nd} {ds : List Dv} {F : Fd} {k d p q : Int} {lk sk : Bool} {l' : List Lk} (h : ScAt w B sb An nn cn ns Ad nd cd ds As n c Al nl cl At nt ct F k d p q lk sk) (hb : Below w.heap.size w w1) (hs : Sl w1 w1.heap.size 3 A' n' c' (l'.flatMap Lk.cells)) (hA : ∀ b off, A' = some ⟨b, off, none⟩ → sb < b) (hn' : n' ≤ nl + 1) :
    ScTo w B sb An nn cn Ad nd cd k d p q lk sk ⟨F.s, l', F.st⟩ (w1.setCell ⟨sb, 3, none⟩ (.slice A' n' c')) := by
  have hl := h.b.lt
  have h1 := h.later hb
  refine ⟨grown_trans (grown_of_below hb _) (grown_cell _ _ _), As, n, c, A', n', c', At, nt, ct, ?_, ?_, ?_, ?_, by have := h.bn; exact ⟨by omega, by omega, by omega⟩⟩
  · have := h1.b.set 3 (.slice A' n' c')
    unfold scV at this ⊢
    exact this
  · exact .of_sl (h1.hs.setCell (p := ⟨sb, 3, none⟩) h.bB _) (by have := h.bB; have := hb.size; simp; omega)
  · refine .of_new ?_ (fun b off e => Nat.le_of_lt (hA b off e))
    obtain ⟨g1, g2, g3, g4, g5⟩ := hs
    refine ⟨g1, g2, g3, g4, fun hn => ?_⟩
    obtain ⟨b, off, e, hbb, hc⟩ := g5 hn
    refine ⟨b, off, e, by simpa [World.setCell] using hbb, fun j u hu => ?_⟩
    exact (World.cell?_of_block (Below.heap_setCell w1 ⟨sb, 3, none⟩ _ b (by have := hA b off e; simp; omega))).trans (hc j u hu)
  · exact .of_sl (h1.ht.setCell (p := ⟨sb, 3, none⟩) h.bB _) (by have := h.bB; have := hb.size; simp; omega)
set_option maxRecDepth 100000 in
set_option maxHeartbeats 8000000 in
theorem lock_any (B sb : Nat) (An Ad As Al At : Option Addr) (nn cn nd cd n c nl cl nt ct : Nat) (ns : List Nd) (ds : List Dv) (F : Fd) (k p q : Int) (d : Nat) (lk sk : Bool) (w : World) (h : ScAt w B sb An nn cn ns Ad nd cd ds As n c Al nl cl At nt ct F k d p q lk sk) (hdn : d < n) :
    Calls Tryd.prog 42 #[.pointer (some ⟨sb, 0, none⟩)] w (ScPost w B sb An nn cn Ad nd cd k d p q lk sk (if posB p = true ∧ F.s.getD d 0 = p then addErr ns ds F.ls ⟨d, p, q⟩ else 10) ⟨F.s, insL ⟨d, p, q⟩ F.ls, F.st⟩) := by
  have hnl : F.ls.length = nl := h.hl.len (fun _ => rfl) (by decide)
  subst hnl
  obtain ⟨E, hE⟩ : ∃ E, E = (if posB p = true ∧ F.s.getD d 0 = p then addErr ns ds F.ls ⟨d, p, q⟩ else 10) := ⟨_, rfl⟩
  rw [← hE]
  obtain ⟨bs, os, sv, hAs, hbs, hsv, hcs⟩ := h.hs.at1 hdn
  subst hAs
  have hsm := h.hs.le
  have HP : Hid (∀ W : World, Calls Tryd.prog 58 #[.int .i64 p] W fun e w' => e = .returned (.bool (posB p)) ∧ W = w') := fun W => fpos_any p W
  rw [getDf hsv] at hE
  have HH := Lib.hid h
  have hb := h.b
  unfold scV at hb
  have a2 : w.cell? ⟨sb, 2, none⟩ = some (.slice (some ⟨bs, os, none⟩) n c) := hb.cell 2
  have a6 : w.cell? ⟨sb, 6, none⟩ = some (.int .i64 (d : Int)) := hb.cell 6
  have a7 : w.cell? ⟨sb, 7, none⟩ = some (.int .i64 p) := hb.cell 7
  clear hb h hsv
  rcases hp : posB p with _ | _
  · rw [hp] at HP
    rw [if_neg (by simp [hp])] at hE
    subst hE
    clear hp
    go_enter Tryd.func42, Tryd.ntmps42
    go_wp2_with fail
    go_quiet ((go_at_call 58; exact quiet_eq (HP.out _)))
    go_wp2_with fail
    go_ret
    exact ⟨rfl, F, HH.out.same.drewN _, fun e => by cases e⟩
  rw [hp] at HP
  by_cases hv : sv = p; rotate_left
  · have qv : (sv != p) = true := by simpa using hv
    rw [if_neg (by simp [hv])] at hE
    subst hE
    clear hp hv
    go_enter Tryd.func42, Tryd.ntmps42
    go_wp2_with fail
    go_quiet ((go_at_call 58; exact quiet_eq (HP.out _)))
    go_wp2_with fail
    go_ret
    exact ⟨rfl, F, HH.out.same.drewN _, fun e => by cases e⟩
  have qv : (sv != p) = false := by simpa using hv
  rw [if_pos ⟨hp, hv⟩] at hE
  have HE := Lib.hid hE
  clear hp hv hE
  go_enter Tryd.func42, Tryd.ntmps42
  go_wp2_with fail
  go_quiet ((go_at_call 58; exact quiet_eq (HP.out _)))
  go_wp2_with fail
  clear a2 a6 a7
  have HQ := Lib.hid (HH.out.later (below_drewN (Below.refl _ _) nq))
  have HG0 : Hid (Below w.heap.size w (w.drewN nq)) := below_drewN (Below.refl _ _) nq
  generalize World.drewN w nq = wq at *
  have HQD := Lib.hid (HQ.out.later (Below.refl _ _).drew)
  refine wp_region_K (S := fun W' => W'.cell? ⟨sb, 0, none⟩ = some (.slice An nn cn) ∧ W'.cell? ⟨sb, 1, none⟩ = some (.slice Ad nd cd) ∧ W'.cell? ⟨sb, 3, none⟩ = some (.slice Al F.ls.length cl) ∧ W'.cell? ⟨sb, 6, none⟩ = some (.int .i64 (d : Int)) ∧ W'.cell? ⟨sb, 7, none⟩ = some (.int .i64 p) ∧ W'.cell? ⟨sb, 8, none⟩ = some (.int .i64 q)) (J := [33]) (by kernel_rfl) ?_ (fun hHeld => ?_)
  · exact sc_cells HQ.out.b
  try dsimp only at hHeld
  refine wpAnyK_takeTL (i := 0) (d := some 31) (v := ?_) #[true, false, false, false, false, false, false, false, false, false, false, false, false, false, false, false, false, false, false, false, false, false, false, false, false, false, false, false, false, false, false, false, false, false, false] (by kernel_rfl) rfl rfl (by kernel_rfl) (by kernel_rfl) (by kernel_rfl) (by kernel_rfl) (by kernel_rfl) (fun _ _ _ h => h) (Or.inl ⟨by rfl, ?_⟩) hHeld ?_
  rotate_left
  · (intro w hSw; (try dsimp only at hSw);  go_simp; try with_reducible rfl)
  try simp only [Act.put, List.setIfInBounds_toArray, List.set_cons_zero, List.set_cons_succ]
  refine wpAnyK_takeTL (i := 1) (d := some 32) (v := ?_) #[true, true, false, false, false, false, false, false, false, false, false, false, false, false, false, false, false, false, false, false, false, false, false, false, false, false, false, false, false, false, false, false, false, false, false] (by kernel_rfl) rfl rfl (by kernel_rfl) (by kernel_rfl) (by kernel_rfl) (by kernel_rfl) (by kernel_rfl) (fun _ _ _ h => h) (Or.inl ⟨by rfl, ?_⟩) hHeld ?_
  rotate_left
  · (intro w hSw; (try dsimp only at hSw);  go_simp; try with_reducible rfl)
  try simp only [Act.put, List.setIfInBounds_toArray, List.set_cons_zero, List.set_cons_succ]
  refine wpAnyK_takeTL (i := 2) (d := some 33) (v := ?_) #[true, true, true, false, false, false, false, false, false, false, false, false, false, false, false, false, false, false, false, false, false, false, false, false, false, false, false, false, false, false, false, false, false, false, false] (by kernel_rfl) rfl rfl (by kernel_rfl) (by kernel_rfl) (by kernel_rfl) (by kernel_rfl) (by kernel_rfl) (fun _ _ _ h => h) (Or.inl ⟨by rfl, ?_⟩) hHeld ?_
  rotate_left
  · (intro w hSw; (try dsimp only at hSw);  go_simp; try with_reducible rfl)
  try simp only [Act.put, List.setIfInBounds_toArray, List.set_cons_zero, List.set_cons_succ]
  refine wpAnyK_takeTL (i := 3) (d := some 34) (v := ?_) #[true, true, true, true, false, false, false, false, false, false, false, false, false, false, false, false, false, false, false, false, false, false, false, false, false, false, false, false, false, false, false, false, false, false, false] (by kernel_rfl) rfl rfl (by kernel_rfl) (by kernel_rfl) (by kernel_rfl) (by kernel_rfl) (by kernel_rfl) (fun _ _ _ h => h) (Or.inl ⟨by rfl, ?_⟩) hHeld ?_
  rotate_left
  · (intro w hSw; (try dsimp only at hSw);  go_simp; try with_reducible rfl)
  try simp only [Act.put, List.setIfInBounds_toArray, List.set_cons_zero, List.set_cons_succ]
  refine wpAnyK_takeL (i := 4) (d := some 35) (v := ?_) #[true, true, true, true, true, false, false, false, false, false, false, false, false, false, false, false, false, false, false, false, false, false, false, false, false, false, false, false, false, false, false, false, false, false, false] (by kernel_rfl) rfl rfl (by kernel_rfl) (by kernel_rfl) (by kernel_rfl) (by kernel_rfl) (by kernel_rfl) (by kernel_rfl) (fun _ _ _ h => h) (Or.inl ⟨by rfl, ?_⟩) hHeld ?_
  rotate_left
  · (intro w hSw; (try dsimp only at hSw);  go_simp; try with_reducible rfl)
  try simp only [Act.put, List.setIfInBounds_toArray, List.set_cons_zero, List.set_cons_succ]
  refine wpAnyK_takeTL (i := 5) (d := some 36) (v := ?_) #[true, true, true, true, true, true, false, false, false, false, false, false, false, false, false, false, false, false, false, false, false, false, false, false, false, false, false, false, false, false, false, false, false, false, false] (by kernel_rfl) rfl rfl (by kernel_rfl) (by kernel_rfl) (by kernel_rfl) (by kernel_rfl) (by kernel_rfl) (fun _ _ _ h => h) (Or.inl ⟨by rfl, ?_⟩) hHeld ?_
  rotate_left
  · (intro w hSw; (try dsimp only at hSw);  go_simp; try with_reducible rfl)
  try simp only [Act.put, List.setIfInBounds_toArray, List.set_cons_zero, List.set_cons_succ]
  refine wpAnyK_takeTL (i := 6) (d := some 37) (v := ?_) #[true, true, true, true, true, true, true, false, false, false, false, false, false, false, false, false, false, false, false, false, false, false, false, false, false, false, false, false, false, false, false, false, false, false, false] (by kernel_rfl) rfl rfl (by kernel_rfl) (by kernel_rfl) (by kernel_rfl) (by kernel_rfl) (by kernel_rfl) (fun _ _ _ h => h) (Or.inl ⟨by rfl, ?_⟩) hHeld ?_
  rotate_left
  · (intro w hSw; (try dsimp only at hSw);  go_simp; try with_reducible rfl)
  try simp only [Act.put, List.setIfInBounds_toArray, List.set_cons_zero, List.set_cons_succ]
  refine wpAnyK_takeTL (i := 7) (d := some 38) (v := ?_) #[true, true, true, true, true, true, true, true, false, false, false, false, false, false, false, false, false, false, false, false, false, false, false, false, false, false, false, false, false, false, false, false, false, false, false] (by kernel_rfl) rfl rfl (by kernel_rfl) (by kernel_rfl) (by kernel_rfl) (by kernel_rfl) (by kernel_rfl) (fun _ _ _ h => h) (Or.inl ⟨by rfl, ?_⟩) hHeld ?_
  rotate_left
  · (intro w hSw; (try dsimp only at hSw);  go_simp; try with_reducible rfl)
  try simp only [Act.put, List.setIfInBounds_toArray, List.set_cons_zero, List.set_cons_succ]
  refine wpAnyK_takeTL (i := 8) (d := some 39) (v := ?_) #[true, true, true, true, true, true, true, true, true, false, false, false, false, false, false, false, false, false, false, false, false, false, false, false, false, false, false, false, false, false, false, false, false, false, false] (by kernel_rfl) rfl rfl (by kernel_rfl) (by kernel_rfl) (by kernel_rfl) (by kernel_rfl) (by kernel_rfl) (fun _ _ _ h => h) (Or.inl ⟨by rfl, ?_⟩) hHeld ?_
  rotate_left
  · (intro w hSw; (try dsimp only at hSw);  go_simp; try with_reducible rfl)
  try simp only [Act.put, List.setIfInBounds_toArray, List.set_cons_zero, List.set_cons_succ]
  refine wpAnyK_takeL (i := 9) (d := some 40) (v := ?_) #[true, true, true, true, true, true, true, true, true, true, false, false, false, false, false, false, false, false, false, false, false, false, false, false, false, false, false, false, false, false, false, false, false, false, false] (by kernel_rfl) rfl rfl (by kernel_rfl) (by kernel_rfl) (by kernel_rfl) (by kernel_rfl) (by kernel_rfl) (by kernel_rfl) (fun _ _ _ h => h) (Or.inl ⟨by rfl, ?_⟩) hHeld ?_
  rotate_left
  · (intro w hSw; (try dsimp only at hSw);  go_simp; try with_reducible rfl)
  try simp only [Act.put, List.setIfInBounds_toArray, List.set_cons_zero, List.set_cons_succ]
  refine wpAnyK_takeTL (i := 10) (d := some 41) (v := ?_) #[true, true, true, true, true, true, true, true, true, true, true, false, false, false, false, false, false, false, false, false, false, false, false, false, false, false, false, false, false, false, false, false, false, false, false] (by kernel_rfl) rfl rfl (by kernel_rfl) (by kernel_rfl) (by kernel_rfl) (by kernel_rfl) (by kernel_rfl) (fun _ _ _ h => h) (Or.inl ⟨by rfl, ?_⟩) hHeld ?_
  rotate_left
  · (intro w hSw; (try dsimp only at hSw);  go_simp; try with_reducible rfl)
  try simp only [Act.put, List.setIfInBounds_toArray, List.set_cons_zero, List.set_cons_succ]
  refine wpAnyK_takeTL (i := 11) (d := some 42) (v := ?_) #[true, true, true, true, true, true, true, true, true, true, true, true, false, false, false, false, false, false, false, false, false, false, false, false, false, false, false, false, false, false, false, false, false, false, false] (by kernel_rfl) rfl rfl (by kernel_rfl) (by kernel_rfl) (by kernel_rfl) (by kernel_rfl) (by kernel_rfl) (fun _ _ _ h => h) (Or.inl ⟨by rfl, ?_⟩) hHeld ?_
  rotate_left
  · (intro w hSw; (try dsimp only at hSw);  go_simp; try with_reducible rfl)
  try simp only [Act.put, List.setIfInBounds_toArray, List.set_cons_zero, List.set_cons_succ]
  refine wpAnyK_takeTL (i := 12) (d := some 43) (v := ?_) #[true, true, true, true, true, true, true, true, true, true, true, true, true, false, false, false, false, false, false, false, false, false, false, false, false, false, false, false, false, false, false, false, false, false, false] (by kernel_rfl) rfl rfl (by kernel_rfl) (by kernel_rfl) (by kernel_rfl) (by kernel_rfl) (by kernel_rfl) (fun _ _ _ h => h) (Or.inl ⟨by rfl, ?_⟩) hHeld ?_
  rotate_left
  · (intro w hSw; (try dsimp only at hSw);  go_simp; try with_reducible rfl)
  try simp only [Act.put, List.setIfInBounds_toArray, List.set_cons_zero, List.set_cons_succ]
  refine wpAnyK_takeTL (i := 13) (d := some 44) (v := ?_) #[true, true, true, true, true, true, true, true, true, true, true, true, true, true, false, false, false, false, false, false, false, false, false, false, false, false, false, false, false, false, false, false, false, false, false] (by kernel_rfl) rfl rfl (by kernel_rfl) (by kernel_rfl) (by kernel_rfl) (by kernel_rfl) (by kernel_rfl) (fun _ _ _ h => h) (Or.inl ⟨by rfl, ?_⟩) hHeld ?_
  rotate_left
  · (intro w hSw; (try dsimp only at hSw);  go_simp; try with_reducible rfl)
  try simp only [Act.put, List.setIfInBounds_toArray, List.set_cons_zero, List.set_cons_succ]
  refine wpAnyK_takeL (i := 14) (d := some 45) (v := ?_) #[true, true, true, true, true, true, true, true, true, true, true, true, true, true, true, false, false, false, false, false, false, false, false, false, false, false, false, false, false, false, false, false, false, false, false] (by kernel_rfl) rfl rfl (by kernel_rfl) (by kernel_rfl) (by kernel_rfl) (by kernel_rfl) (by kernel_rfl) (by kernel_rfl) (fun _ _ _ h => h) (Or.inl ⟨by rfl, ?_⟩) hHeld ?_
  rotate_left
  · (intro w hSw; (try dsimp only at hSw);  go_simp; try with_reducible rfl)
  try simp only [Act.put, List.setIfInBounds_toArray, List.set_cons_zero, List.set_cons_succ]
  refine wpAnyK_takeTL (i := 15) (d := some 46) (v := ?_) #[true, true, true, true, true, true, true, true, true, true, true, true, true, true, true, true, false, false, false, false, false, false, false, false, false, false, false, false, false, false, false, false, false, false, false] (by kernel_rfl) rfl rfl (by kernel_rfl) (by kernel_rfl) (by kernel_rfl) (by kernel_rfl) (by kernel_rfl) (fun _ _ _ h => h) (Or.inl ⟨by rfl, ?_⟩) hHeld ?_
  rotate_left
  · (intro w hSw; (try dsimp only at hSw);  go_simp; try with_reducible rfl)
  try simp only [Act.put, List.setIfInBounds_toArray, List.set_cons_zero, List.set_cons_succ]
  refine wpAnyK_takeTL (i := 16) (d := some 47) (v := ?_) #[true, true, true, true, true, true, true, true, true, true, true, true, true, true, true, true, true, false, false, false, false, false, false, false, false, false, false, false, false, false, false, false, false, false, false] (by kernel_rfl) rfl rfl (by kernel_rfl) (by kernel_rfl) (by kernel_rfl) (by kernel_rfl) (by kernel_rfl) (fun _ _ _ h => h) (Or.inl ⟨by rfl, ?_⟩) hHeld ?_
  rotate_left
  · (intro w hSw; (try dsimp only at hSw);  go_simp; try with_reducible rfl)
  try simp only [Act.put, List.setIfInBounds_toArray, List.set_cons_zero, List.set_cons_succ]
  refine wpAnyK_takeTL (i := 17) (d := some 48) (v := ?_) #[true, true, true, true, true, true, true, true, true, true, true, true, true, true, true, true, true, true, false, false, false, false, false, false, false, false, false, false, false, false, false, false, false, false, false] (by kernel_rfl) rfl rfl (by kernel_rfl) (by kernel_rfl) (by kernel_rfl) (by kernel_rfl) (by kernel_rfl) (fun _ _ _ h => h) (Or.inl ⟨by rfl, ?_⟩) hHeld ?_
  rotate_left
  · (intro w hSw; (try dsimp only at hSw);  go_simp; try with_reducible rfl)
  try simp only [Act.put, List.setIfInBounds_toArray, List.set_cons_zero, List.set_cons_succ]
  refine wpAnyK_takeTL (i := 18) (d := some 49) (v := ?_) #[true, true, true, true, true, true, true, true, true, true, true, true, true, true, true, true, true, true, true, false, false, false, false, false, false, false, false, false, false, false, false, false, false, false, false] (by kernel_rfl) rfl rfl (by kernel_rfl) (by kernel_rfl) (by kernel_rfl) (by kernel_rfl) (by kernel_rfl) (fun _ _ _ h => h) (Or.inl ⟨by rfl, ?_⟩) hHeld ?_
  rotate_left
  · (intro w hSw; (try dsimp only at hSw);  go_simp; try with_reducible rfl)
  try simp only [Act.put, List.setIfInBounds_toArray, List.set_cons_zero, List.set_cons_succ]
  refine wpAnyK_takeL (i := 19) (d := some 50) (v := ?_) #[true, true, true, true, true, true, true, true, true, true, true, true, true, true, true, true, true, true, true, true, false, false, false, false, false, false, false, false, false, false, false, false, false, false, false] (by kernel_rfl) rfl rfl (by kernel_rfl) (by kernel_rfl) (by kernel_rfl) (by kernel_rfl) (by kernel_rfl) (by kernel_rfl) (fun _ _ _ h => h) (Or.inl ⟨by rfl, ?_⟩) hHeld ?_
  rotate_left
  · (intro w hSw; (try dsimp only at hSw);  go_simp; try with_reducible rfl)
  try simp only [Act.put, List.setIfInBounds_toArray, List.set_cons_zero, List.set_cons_succ]
  refine wpAnyK_takeTL (i := 20) (d := some 51) (v := ?_) #[true, true, true, true, true, true, true, true, true, true, true, true, true, true, true, true, true, true, true, true, true, false, false, false, false, false, false, false, false, false, false, false, false, false, false] (by kernel_rfl) rfl rfl (by kernel_rfl) (by kernel_rfl) (by kernel_rfl) (by kernel_rfl) (by kernel_rfl) (fun _ _ _ h => h) (Or.inl ⟨by rfl, ?_⟩) hHeld ?_
  rotate_left
  · (intro w hSw; (try dsimp only at hSw);  go_simp; try with_reducible rfl)
  try simp only [Act.put, List.setIfInBounds_toArray, List.set_cons_zero, List.set_cons_succ]
  refine wpAnyK_takeTL (i := 21) (d := some 52) (v := ?_) #[true, true, true, true, true, true, true, true, true, true, true, true, true, true, true, true, true, true, true, true, true, true, false, false, false, false, false, false, false, false, false, false, false, false, false] (by kernel_rfl) rfl rfl (by kernel_rfl) (by kernel_rfl) (by kernel_rfl) (by kernel_rfl) (by kernel_rfl) (fun _ _ _ h => h) (Or.inl ⟨by rfl, ?_⟩) hHeld ?_
  rotate_left
  · (intro w hSw; (try dsimp only at hSw);  go_simp; try with_reducible rfl)
  try simp only [Act.put, List.setIfInBounds_toArray, List.set_cons_zero, List.set_cons_succ]
  refine wpAnyK_takeTL (i := 22) (d := some 53) (v := ?_) #[true, true, true, true, true, true, true, true, true, true, true, true, true, true, true, true, true, true, true, true, true, true, true, false, false, false, false, false, false, false, false, false, false, false, false] (by kernel_rfl) rfl rfl (by kernel_rfl) (by kernel_rfl) (by kernel_rfl) (by kernel_rfl) (by kernel_rfl) (fun _ _ _ h => h) (Or.inl ⟨by rfl, ?_⟩) hHeld ?_
  rotate_left
  · (intro w hSw; (try dsimp only at hSw);  go_simp; try with_reducible rfl)
  try simp only [Act.put, List.setIfInBounds_toArray, List.set_cons_zero, List.set_cons_succ]
  refine wpAnyK_takeTL (i := 23) (d := some 54) (v := ?_) #[true, true, true, true, true, true, true, true, true, true, true, true, true, true, true, true, true, true, true, true, true, true, true, true, false, false, false, false, false, false, false, false, false, false, false] (by kernel_rfl) rfl rfl (by kernel_rfl) (by kernel_rfl) (by kernel_rfl) (by kernel_rfl) (by kernel_rfl) (fun _ _ _ h => h) (Or.inl ⟨by rfl, ?_⟩) hHeld ?_
  rotate_left
  · (intro w hSw; (try dsimp only at hSw);  go_simp; try with_reducible rfl)
  try simp only [Act.put, List.setIfInBounds_toArray, List.set_cons_zero, List.set_cons_succ]
  refine wpAnyK_takeL (i := 24) (d := some 55) (v := ?_) #[true, true, true, true, true, true, true, true, true, true, true, true, true, true, true, true, true, true, true, true, true, true, true, true, true, false, false, false, false, false, false, false, false, false, false] (by kernel_rfl) rfl rfl (by kernel_rfl) (by kernel_rfl) (by kernel_rfl) (by kernel_rfl) (by kernel_rfl) (by kernel_rfl) (fun _ _ _ h => h) (Or.inl ⟨by rfl, ?_⟩) hHeld ?_
  rotate_left
  · (intro w hSw; (try dsimp only at hSw);  go_simp; try with_reducible rfl)
  try simp only [Act.put, List.setIfInBounds_toArray, List.set_cons_zero, List.set_cons_succ]
  refine wpAnyK_takeTL (i := 25) (d := some 56) (v := ?_) #[true, true, true, true, true, true, true, true, true, true, true, true, true, true, true, true, true, true, true, true, true, true, true, true, true, true, false, false, false, false, false, false, false, false, false] (by kernel_rfl) rfl rfl (by kernel_rfl) (by kernel_rfl) (by kernel_rfl) (by kernel_rfl) (by kernel_rfl) (fun _ _ _ h => h) (Or.inl ⟨by rfl, ?_⟩) hHeld ?_
  rotate_left
  · (intro w hSw; (try dsimp only at hSw);  go_simp; try with_reducible rfl)
  try simp only [Act.put, List.setIfInBounds_toArray, List.set_cons_zero, List.set_cons_succ]
  refine wpAnyK_oneL (k := 26) #[true, true, true, true, true, true, true, true, true, true, true, true, true, true, true, true, true, true, true, true, true, true, true, true, true, true, true, false, false, false, false, false, false, false, false] true (by kernel_rfl) (by kernel_rfl) (by kernel_rfl) rfl (fun K hK => ?_)
  (go_simp; refine (ladd_uni An Ad Al nn cn nd cd cl _ _ _ ns ds F.ls d p q wq.drew HQD.out.la HQD.out.hn HQD.out.hd HQD.out.hl HQD.out.le HQD.out.le HQD.out.le HQD.out.sn HQD.out.sd).mono ?_; rintro e wx ⟨A', n', c', l', rfl, hS', hA', hn', hl', hb'⟩; rw [← HE.out]; go_simp)
  refine hK.out _ _ (fun _ => ?_) (fun hHeld' => ?_)
  · exact sc_cells (HQD.out.later hb'.out).b
  replace hHeld := hHeld' rfl
  clear hHeld' hK K
  try dsimp only at hHeld
  have HSX := Lib.hid hS'.out; have HAX := Lib.hid hA'.out; have HLX := Lib.hid hl'.out; have HNX := Lib.hid hn'.out; have HBX : Hid (Below w.heap.size w wx) := HG0.out.drew.trans (hb'.out.mono HG0.out.drew.size)
  have z3 := (HQD.out.later hb'.out).b.frozen 3
  clear hS' hA' hn' hl' hb'
  refine wpAnyK_takeTL (i := 27) (d := some 30) (v := ?_) #[true, true, true, true, true, true, true, true, true, true, true, true, true, true, true, true, true, true, true, true, true, true, true, true, true, true, true, true, false, false, false, false, false, false, false] (by kernel_rfl) rfl rfl (by kernel_rfl) (by kernel_rfl) (by kernel_rfl) (by kernel_rfl) (by kernel_rfl) (fun _ _ _ h => h) (Or.inl ⟨by rfl, ?_⟩) hHeld ?_
  rotate_left
  · (intro w hSw; (try dsimp only at hSw);  go_simp; try with_reducible rfl)
  try simp only [Act.put, List.setIfInBounds_toArray, List.set_cons_zero, List.set_cons_succ]
  refine wpAnyK_takeTL (i := 28) (d := some 58) (v := ?_) #[true, true, true, true, true, true, true, true, true, true, true, true, true, true, true, true, true, true, true, true, true, true, true, true, true, true, true, true, true, false, false, false, false, false, false] (by kernel_rfl) rfl rfl (by kernel_rfl) (by kernel_rfl) (by kernel_rfl) (by kernel_rfl) (by kernel_rfl) (fun _ _ _ h => h) (Or.inl ⟨by rfl, ?_⟩) hHeld ?_
  rotate_left
  · (intro w hSw; (try dsimp only at hSw);  go_simp; try with_reducible rfl)
  try simp only [Act.put, List.setIfInBounds_toArray, List.set_cons_zero, List.set_cons_succ]
  refine wpAnyK_takeTL (i := 29) (d := some 59) (v := ?_) #[true, true, true, true, true, true, true, true, true, true, true, true, true, true, true, true, true, true, true, true, true, true, true, true, true, true, true, true, true, true, false, false, false, false, false] (by kernel_rfl) rfl rfl (by kernel_rfl) (by kernel_rfl) (by kernel_rfl) (by kernel_rfl) (by kernel_rfl) (fun _ _ _ h => h) (Or.inl ⟨by rfl, ?_⟩) hHeld ?_
  rotate_left
  · (intro w hSw; (try dsimp only at hSw);  go_simp; try with_reducible rfl)
  try simp only [Act.put, List.setIfInBounds_toArray, List.set_cons_zero, List.set_cons_succ]
  refine wpAnyK_takeTL (i := 30) (d := some 60) (v := ?_) #[true, true, true, true, true, true, true, true, true, true, true, true, true, true, true, true, true, true, true, true, true, true, true, true, true, true, true, true, true, true, true, false, false, false, false] (by kernel_rfl) rfl rfl (by kernel_rfl) (by kernel_rfl) (by kernel_rfl) (by kernel_rfl) (by kernel_rfl) (fun _ _ _ h => h) (Or.inl ⟨by rfl, ?_⟩) hHeld ?_
  rotate_left
  · (intro w hSw; (try dsimp only at hSw);  go_simp; try with_reducible rfl)
  try simp only [Act.put, List.setIfInBounds_toArray, List.set_cons_zero, List.set_cons_succ]
  refine wpAnyK_takeTL (i := 31) (d := some 61) (v := ?_) #[true, true, true, true, true, true, true, true, true, true, true, true, true, true, true, true, true, true, true, true, true, true, true, true, true, true, true, true, true, true, true, true, false, false, false] (by kernel_rfl) rfl rfl (by kernel_rfl) (by kernel_rfl) (by kernel_rfl) (by kernel_rfl) (by kernel_rfl) (fun _ _ _ h => h) (Or.inl ⟨by rfl, ?_⟩) hHeld ?_
  rotate_left
  · (intro w hSw; (try dsimp only at hSw);  go_simp; try with_reducible rfl)
  try simp only [Act.put, List.setIfInBounds_toArray, List.set_cons_zero, List.set_cons_succ]
  refine wpAnyK_takeTL (i := 32) (d := some 62) (v := ?_) #[true, true, true, true, true, true, true, true, true, true, true, true, true, true, true, true, true, true, true, true, true, true, true, true, true, true, true, true, true, true, true, true, true, false, false] (by kernel_rfl) rfl rfl (by kernel_rfl) (by kernel_rfl) (by kernel_rfl) (by kernel_rfl) (by kernel_rfl) (fun _ _ _ h => h) (Or.inl ⟨by rfl, ?_⟩) hHeld ?_
  rotate_left
  · (intro w hSw; (try dsimp only at hSw);  go_simp; try with_reducible rfl)
  try simp only [Act.put, List.setIfInBounds_toArray, List.set_cons_zero, List.set_cons_succ]
  refine wpAnyK_oneL (k := 33) #[true, true, true, true, true, true, true, true, true, true, true, true, true, true, true, true, true, true, true, true, true, true, true, true, true, true, true, true, true, true, true, true, true, true, false] false (by kernel_rfl) (by kernel_rfl) (by kernel_rfl) rfl (fun K hK => ?_)
  go_simp
  refine hK.out _ _ (fun h => by cases h) (fun _ => ?_)
  try clear hHeld
  clear hK K
  refine wpAnyK_oneL (k := 34) #[true, true, true, true, true, true, true, true, true, true, true, true, true, true, true, true, true, true, true, true, true, true, true, true, true, true, true, true, true, true, true, true, true, true, true] false (by kernel_rfl) (by kernel_rfl) (by kernel_rfl) rfl (fun K hK => ?_)
  go_simp
  refine hK.out _ _ (fun h => by cases h) (fun _ => ?_)
  try clear hHeld
  clear hK K
  refine wpAnyK_done (by kernel_rfl) ?_ _
  go_wp2_with fail
  go_ret
  exact ⟨rfl, _, HH.out.locks HBX.out HSX.out (fun b off e => by have := HAX.out b off e; have := HQD.out.b.lt; omega) HNX.out, fun h0 => by rw [HLX.out (by rw [← HE.out]; exact h0)]⟩
end Go.Proofs.YtlcaebfjdhgcfaaDoor
