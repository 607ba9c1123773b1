import Derived.Test.YtepicjpdhpojnaaGreatDoorX29
import Derived.Test.YtepicjpdhpojnaaGreatDoorX30
import Derived.Test.YtepicjpdhpojnaaGreatDoorIns
import Derived.Lib.EndianMore
set_option maxRecDepth 100000
set_option maxHeartbeats 16000000
namespace Go.Proofs.YtepicjpdhpojnaaGreatDoor
section
open Go.RowKit
def kz (w : World) (B sb : Nat) (An : Option Addr) (nn cn : Nat) (Ad : Option Addr) (nd cd : Nat) (k d p q : Int) (lk sk : Bool) (E : Int) (G : Fd) (e : Ending) (w' : World) : Prop :=
 e = .returned (.int .i64 E) ∧ ∃ F', uh w B sb An nn cn Ad nd cd k d p q lk sk F' w' ∧ (E = 0 → F' = G)
theorem kO (An Ad Al : Option Addr) (nn cn nd cd c Bn Bd Bl : Nat) (ns : List Nd) (ds : List Dv) (ls : List Lk) (d p q : Int) (w : World) (hla : Laid w) (hn : Sl w Bn 3 An nn cn (ns.flatMap Nd.cells)) (hd : Sl w Bd 5 Ad nd cd (ds.flatMap Dv.cells)) (hs : Sl w Bl 3 Al ls.length c (ls.flatMap Lk.cells)) (hBn : Bn ≤ w.heap.size) (hBd : Bd ≤ w.heap.size) (hBl : Bl ≤ w.heap.size)
 (hsn : ∀ x ∈ ns, x.name.size ≤ 9223372036854775807) (hsd : ∀ x ∈ ds, x.name.size ≤ 9223372036854775807) :
 Calls Tryz.prog 107 #[.agg #[.slice An nn cn, .slice Ad nd cd], .slice Al ls.length c, .agg #[.int .i64 d, .int .i64 p, .int .i64 q]] w fun e w' => ∃ (A' : Option Addr) (n' c' : Nat) (l' : List Lk), e = .returned (.tuple #[.slice A' n' c', .int .i64 (zq ns ds ls ⟨d, p, q⟩)]) ∧ Hid (Sl w' w'.heap.size 3 A' n' c' (l'.flatMap Lk.cells)) ∧ Hid (∀ b off, A' = some ⟨b, off, none⟩ → w.heap.size ≤ b) ∧ Hid (n' ≤ ls.length + 1) ∧ Hid (zq ns ds ls ⟨d, p, q⟩ = 0 → l' = wI ⟨d, p, q⟩ ls) ∧ Hid (Below w.heap.size w w') := by
 refine (kP An Ad Al nn cn nd cd c Bn Bd Bl ns ds ls d p q w hla hn hd hs hBn hBd hBl hsn hsd).mono ?_
 rintro e w' ⟨⟨h1, rfl⟩ | ⟨h1, A', c', rfl, hO⟩, hb⟩
 ·exact ⟨none, 0, 0, [], rfl, Sl.nil _ _ _, (fun _ _ e => by cases e), Nat.zero_le _, fun h => absurd h h1, hb⟩
 ·exact ⟨A', _, c', _, by rw [h1], hO.out.sl, fun b off e => (World.ownsRow.lt hO.out b (by rw [e]; rfl)).1, Nat.le_refl _, fun _ => rfl, hb⟩
theorem oq (An Ad Al : Option Addr) (nn cn nd cd c Bn Bd Bl : Nat) (ns : List Nd) (ds : List Dv) (ls : List Lk) (d q : Int) (w : World) (h0 : zL ns ds ls = 0) (hla : Laid w) (hn : Sl w Bn 3 An nn cn (ns.flatMap Nd.cells)) (hd : Sl w Bd 5 Ad nd cd (ds.flatMap Dv.cells)) (hs : Sl w Bl 3 Al ls.length c (ls.flatMap Lk.cells)) (hBn : Bn ≤ w.heap.size) (hBd : Bd ≤ w.heap.size) (hBl : Bl ≤ w.heap.size)
 (hsn : ∀ x ∈ ns, x.name.size ≤ 9223372036854775807) (hsd : ∀ x ∈ ds, x.name.size ≤ 9223372036854775807) :
 Calls Tryz.prog 79 #[.agg #[.slice An nn cn, .slice Ad nd cd], .slice Al ls.length c, .int .i64 d, .int .i64 q] w fun e w' => ∃ (A' : Option Addr) (n' c' : Nat) (l' : List Lk), e = .returned (.tuple #[.slice A' n' c', .int .i64 (if xk d q ls = none then 15 else 0)]) ∧ Hid (Sl w' w'.heap.size 3 A' n' c' (l'.flatMap Lk.cells)) ∧ Hid (∀ b off, A' = some ⟨b, off, none⟩ → w.heap.size ≤ b) ∧ Hid (n' ≤ ls.length + 1) ∧ Hid (xk d q ls ≠ none → l' = (match xk d q ls with | some i => ls.eraseIdx i | none => ls)) ∧ Hid (Below w.heap.size w w') := by
 refine (ou An Ad Al nn cn nd cd c Bn Bd Bl ns ds ls d q w hla hn hd hs hBn hBd hBl hsn hsd).mono ?_
 rintro e w' ⟨⟨h1, _⟩ | ⟨_, h1, rfl⟩ | ⟨_, i, A', c', h1, rfl, hO⟩, hb⟩
 ·exact absurd h0 h1
 ·exact ⟨none, 0, 0, [], by rw [if_pos h1], Sl.nil _ _ _, (fun _ _ e => by cases e), Nat.zero_le _, fun h => absurd h1 h, hb⟩
 ·exact ⟨A', _, c', _, by rw [if_neg (by rw [h1]; simp)], hO.out.sl, fun b off e => (World.ownsRow.lt hO.out b (by rw [e]; rfl)).1, (show ls.length - 1 ≤ ls.length + 1 by omega), fun _ => by rw [h1], hb⟩
theorem th {w : World} {sb nn cn nd cd n c nl cl nt ct : Nat} {An Ad As Al At : Option Addr} {k d p q : Int} {lk sk : Bool} (h : Blk w sb 90 (scV An nn cn Ad nd cd As n c Al nl cl At nt ct k d p q lk sk)) :
 w.cell? ⟨sb, 0, none⟩ = some (.slice An nn cn) ∧ w.cell? ⟨sb, 1, none⟩ = some (.slice Ad nd cd) ∧ w.cell? ⟨sb, 3, none⟩ = some (.slice Al nl cl) ∧ w.cell? ⟨sb, 6, none⟩ = some (.int .i64 d) ∧ w.cell? ⟨sb, 7, none⟩ = some (.int .i64 p) ∧ w.cell? ⟨sb, 8, none⟩ = some (.int .i64 q) := by
 unfold scV at h
 exact ⟨h.cell 0, h.cell 1, h.cell 3, h.cell 6, h.cell 7, h.cell 8⟩
theorem vt.locks {w w1 : World} {B sb nn cn nd cd n c nl cl nt ct n' c' : Nat} {An Ad As Al At A' : Option Addr} {ns : List Nd} {ds : List Dv} {F : Fd} {k d p q : Int} {lk sk : Bool} {l' : List Lk} (h : vt w B sb An nn cn ns Ad nd cd ds As n c Al nl cl At nt ct F k d p q lk sk) (hb : Below w.heap.size w w1) (hs : Sl w1 w1.heap.size 3 A' n' c' (l'.flatMap Lk.cells)) (hA : ∀ b off, A' = some ⟨b, off, none⟩ → sb < b) (hn' : n' ≤ nl + 1) :
 uh w B sb An nn cn Ad nd cd k d p q lk sk ⟨F.s, l', F.st⟩ (w1.setCell ⟨sb, 3, none⟩ (.slice A' n' c')) := by
 have hl := h.b.lt
 have h1 := h.later hb
 refine ⟨zO (zN hb _) (zY _ _ _), As, n, c, A', n', c', At, nt, ct, ?_, ?_, ?_, ?_, by have := h.bn; exact ⟨by omega, by omega, by omega⟩⟩
 ·have := h1.b.set 3 (.slice A' n' c')
  unfold scV at this ⊢
  exact this
 ·exact .of_sl (h1.hs.setCell (p := ⟨sb, 3, none⟩) h.bB _) (by have := h.bB; have := hb.size; simp; omega)
 ·refine .of_new ?_ (fun b off e => Nat.le_of_lt (hA b off e))
  obtain ⟨g1, g2, g3, g4, g5⟩ := hs
  refine ⟨g1, g2, g3, g4, fun hn => ?_⟩
  obtain ⟨b, off, e, hbb, hc⟩ := g5 hn
  refine ⟨b, off, e, by simpa [World.setCell] using hbb, fun j u hu => ?_⟩
  exact (World.cell?_of_block (Below.heap_setCell w1 ⟨sb, 3, none⟩ _ b (by have := hA b off e; simp; omega))).trans (hc j u hu)
 ·exact .of_sl (h1.ht.setCell (p := ⟨sb, 3, none⟩) h.bB _) (by have := h.bB; have := hb.size; simp; omega)
theorem kK (B sb : Nat) (An Ad As Al At : Option Addr) (nn cn nd cd n c nl cl nt ct : Nat) (ns : List Nd) (ds : List Dv) (F : Fd) (k p q : Int) (d : Nat) (lk sk : Bool) (w : World) (h : vt w B sb An nn cn ns Ad nd cd ds As n c Al nl cl At nt ct F k d p q lk sk) (hdn : d < n) :
 Calls Tryz.prog 78 #[.pointer (some ⟨sb, 0, none⟩)] w (kz w B sb An nn cn Ad nd cd k d p q lk sk (if yv p = true ∧ F.s.getD d 0 = p then zq ns ds F.ls ⟨d, p, q⟩ else 10) ⟨F.s, wI ⟨d, p, q⟩ F.ls, F.st⟩) := by
 have hnl : F.ls.length = nl := h.hl.len (fun _ => rfl) (by decide)
 subst hnl
 obtain ⟨E, hE⟩ : ∃ E, E = (if yv p = true ∧ F.s.getD d 0 = p then zq ns ds F.ls ⟨d, p, q⟩ else 10) := ⟨_, rfl⟩
 rw [← hE]
 obtain ⟨bs, os, sv, hAs, hbs, hsv, hcs⟩ := h.hs.at1 hdn
 subst hAs
 have hsm := h.hs.le
 have HP : Hid (∀ W : World, Calls Tryz.prog 104 #[.int .i64 p] W fun e w' => e = .returned (.bool (yv p)) ∧ W = w') := fun W => r6 p W
 rw [q9 hsv] at hE
 have HH := iD h
 have hb := h.b
 unfold scV at hb
 have a2 : w.cell? ⟨sb, 2, none⟩ = some (.slice (some ⟨bs, os, none⟩) n c) := hb.cell 2
 have a6 : w.cell? ⟨sb, 6, none⟩ = some (.int .i64 (d : Int)) := hb.cell 6
 have a7 : w.cell? ⟨sb, 7, none⟩ = some (.int .i64 p) := hb.cell 7
 clear hb h hsv
 rcases hp : yv p with _ | _
 ·rw [hp] at HP
  rw [if_neg (by simp [hp])] at hE
  subst hE
  clear hp
  go_enter Tryz.func78, Tryz.ntmps78
  go_wp2_with fail
  go_quiet ((go_at_call 104; exact vf (HP.out _)))
  go_wp2_with fail
  go_ret
  exact ⟨rfl, F, HH.out.same.drewN _, fun e => by cases e⟩
 rw [hp] at HP
 by_cases hv : sv = p; rotate_left
 ·have qv : (sv != p) = true := by simpa using hv
  rw [if_neg (by simp [hv])] at hE
  subst hE
  clear hp hv
  go_enter Tryz.func78, Tryz.ntmps78
  go_wp2_with fail
  go_quiet ((go_at_call 104; exact vf (HP.out _)))
  go_wp2_with fail
  go_ret
  exact ⟨rfl, F, HH.out.same.drewN _, fun e => by cases e⟩
 have qv : (sv != p) = false := by simpa using hv
 rw [if_pos ⟨hp, hv⟩] at hE
 have HE := iD hE
 clear hp hv hE
 go_enter Tryz.func78, Tryz.ntmps78
 go_wp2_with fail
 go_quiet ((go_at_call 104; exact vf (HP.out _)))
 go_wp2_with fail
 clear a2 a6 a7
 have HQ := iD (HH.out.later (below_drewN bR nq))
 have HG0 : Hid (Below w.heap.size w (w.drewN nq)) := below_drewN bR nq
 generalize World.drewN w nq = wq at *
 have HQD := iD (HQ.out.later (Below.refl _ _).drew)
 refine si (S := fun W' => W'.cell? ⟨sb, 0, none⟩ = some (.slice An nn cn) ∧ W'.cell? ⟨sb, 1, none⟩ = some (.slice Ad nd cd) ∧ W'.cell? ⟨sb, 3, none⟩ = some (.slice Al F.ls.length cl) ∧ W'.cell? ⟨sb, 6, none⟩ = some (.int .i64 (d : Int)) ∧ W'.cell? ⟨sb, 7, none⟩ = some (.int .i64 p) ∧ W'.cell? ⟨sb, 8, none⟩ = some (.int .i64 q)) (J := [33]) (by kernel_rfl) ?_ (fun AA => ?_)
 ·exact th HQ.out.b
 try dsimp only at AA
 refine tK 0 31 (mf 35 1) AA ?_
 refine tK 1 32 (mf 35 2) AA ?_
 refine tK 2 33 (mf 35 3) AA ?_
 refine tK 3 34 (mf 35 4) AA ?_
 refine yV (i := 4) (d := some 35) (v := ?_) (mf 35 5) (by kernel_rfl) rfl rfl (by kernel_rfl) (by kernel_rfl) (by kernel_rfl) (by kernel_rfl) (by kernel_rfl) (by kernel_rfl) (fun _ _ _ h => h) (Or.inl ⟨by rfl, ?_⟩) AA ?_
 rotate_left
 ·(intro w hSw; (try dsimp only at hSw);  go_simp; try with_reducible rfl)
 try simp only [Act.put, sA, s0, s1]
 refine tK 5 36 (mf 35 6) AA ?_
 refine tK 6 37 (mf 35 7) AA ?_
 refine tK 7 38 (mf 35 8) AA ?_
 refine tK 8 39 (mf 35 9) AA ?_
 refine yV (i := 9) (d := some 40) (v := ?_) (mf 35 10) (by kernel_rfl) rfl rfl (by kernel_rfl) (by kernel_rfl) (by kernel_rfl) (by kernel_rfl) (by kernel_rfl) (by kernel_rfl) (fun _ _ _ h => h) (Or.inl ⟨by rfl, ?_⟩) AA ?_
 rotate_left
 ·(intro w hSw; (try dsimp only at hSw);  go_simp; try with_reducible rfl)
 try simp only [Act.put, sA, s0, s1]
 refine tK 10 41 (mf 35 11) AA ?_
 refine tK 11 42 (mf 35 12) AA ?_
 refine tK 12 43 (mf 35 13) AA ?_
 refine tK 13 44 (mf 35 14) AA ?_
 refine yV (i := 14) (d := some 45) (v := ?_) (mf 35 15) (by kernel_rfl) rfl rfl (by kernel_rfl) (by kernel_rfl) (by kernel_rfl) (by kernel_rfl) (by kernel_rfl) (by kernel_rfl) (fun _ _ _ h => h) (Or.inl ⟨by rfl, ?_⟩) AA ?_
 rotate_left
 ·(intro w hSw; (try dsimp only at hSw);  go_simp; try with_reducible rfl)
 try simp only [Act.put, sA, s0, s1]
 refine tK 15 46 (mf 35 16) AA ?_
 refine tK 16 47 (mf 35 17) AA ?_
 refine tK 17 48 (mf 35 18) AA ?_
 refine tK 18 49 (mf 35 19) AA ?_
 refine yV (i := 19) (d := some 50) (v := ?_) (mf 35 20) (by kernel_rfl) rfl rfl (by kernel_rfl) (by kernel_rfl) (by kernel_rfl) (by kernel_rfl) (by kernel_rfl) (by kernel_rfl) (fun _ _ _ h => h) (Or.inl ⟨by rfl, ?_⟩) AA ?_
 rotate_left
 ·(intro w hSw; (try dsimp only at hSw);  go_simp; try with_reducible rfl)
 try simp only [Act.put, sA, s0, s1]
 refine tK 20 51 (mf 35 21) AA ?_
 refine tK 21 52 (mf 35 22) AA ?_
 refine tK 22 53 (mf 35 23) AA ?_
 refine tK 23 54 (mf 35 24) AA ?_
 refine yV (i := 24) (d := some 55) (v := ?_) (mf 35 25) (by kernel_rfl) rfl rfl (by kernel_rfl) (by kernel_rfl) (by kernel_rfl) (by kernel_rfl) (by kernel_rfl) (by kernel_rfl) (fun _ _ _ h => h) (Or.inl ⟨by rfl, ?_⟩) AA ?_
 rotate_left
 ·(intro w hSw; (try dsimp only at hSw);  go_simp; try with_reducible rfl)
 try simp only [Act.put, sA, s0, s1]
 refine tK 25 56 (mf 35 26) AA ?_
 refine xX (k := 26) (mf 35 27) true (by kernel_rfl) (by kernel_rfl) (by kernel_rfl) rfl (fun K hK => ?_)
 (go_simp; refine (kO An Ad Al nn cn nd cd cl _ _ _ ns ds F.ls d p q wq.drew HQD.out.la HQD.out.hn HQD.out.hd HQD.out.hl HQD.out.le HQD.out.le HQD.out.le HQD.out.sn HQD.out.sd).mono ?_; rintro e wx ⟨A', n', c', l', rfl, hS', hA', hn', hl', hb'⟩; rw [← HE.out]; go_simp)
 refine hK.out _ _ (fun _ => ?_) (fun AA' => ?_)
 ·exact th (HQD.out.later hb'.out).b
 replace AA := AA' rfl
 clear AA' hK K
 try dsimp only at AA
 have HSX := iD hS'.out; have HAX := iD hA'.out; have HLX := iD hl'.out; have HNX := iD hn'.out; have HBX : Hid (Below w.heap.size w wx) := HG0.out.drew.trans (hb'.out.mono HG0.out.drew.size)
 have z3 := (HQD.out.later hb'.out).b.frozen 3
 clear hS' hA' hn' hl' hb'
 refine tK 27 30 (mf 35 28) AA ?_
 refine tK 28 58 (mf 35 29) AA ?_
 refine tK 29 59 (mf 35 30) AA ?_
 refine tK 30 60 (mf 35 31) AA ?_
 refine tK 31 61 (mf 35 32) AA ?_
 refine tK 32 62 (mf 35 33) AA ?_
 refine xX (k := 33) (mf 35 34) false (by kernel_rfl) (by kernel_rfl) (by kernel_rfl) rfl (fun K hK => ?_)
 go_simp
 refine hK.out _ _ (fun h => by cases h) (fun _ => ?_)
 try clear AA
 clear hK K
 refine xX (k := 34) (mf 35 35) false (by kernel_rfl) (by kernel_rfl) (by kernel_rfl) rfl (fun K hK => ?_)
 go_simp
 refine hK.out _ _ (fun h => by cases h) (fun _ => ?_)
 try clear AA
 clear hK K
 refine sm (by kernel_rfl) ?_ _
 go_wp2_with fail
 go_ret
 exact ⟨rfl, _, HH.out.locks HBX.out HSX.out (fun b off e => by have := HAX.out b off e; have := HQD.out.b.lt; omega) HNX.out, fun h0 => by rw [HLX.out (by rw [← HE.out]; exact h0)]⟩
end
section
open Go.RowKit
open Go.Lib (below_setCells_w)
theorem et3 : Tryz.laysNm221_ren.t 3 = 3 := rfl
theorem vj (l : List Int) (j : Nat) : (zK l)[j]? = l[j]?.map (Value.int .i64) := by rw [yi, List.getElem?_map]
theorem sr (A : Option Addr) (n c B : Nat) (st : List Int) (d : Int) (w : World) (hs : Sl w B 1 A n c (zK st)) (hn : n ≤ 1000000) (ho : st.Pairwise (· < ·)) :
 Calls Tryz.prog 46 #[.slice A n c, .int .i64 d] w fun e w' => e = .returned (.tuple #[.int .i64 ((st.countP (· < d) : Nat) : Int), .bool (decide (d ∈ st))]) ∧ ∃ q, w' = w.drewN q := by
 have hl : st.length = n := hs.len (fun _ => rfl) (by decide)
 obtain ⟨-, hnc, -, hnone, hc⟩ := hs
 by_cases h0 : n = 0
 ·subst h0
  obtain rfl : st = [] := List.eq_nil_of_length_eq_zero hl
  refine (Tryz.slices_BinarySearch_int_empty A c d w).mono ?_
  rintro e w' ⟨rfl, rfl⟩
  exact ⟨by simp, 0, rfl⟩
 ·obtain ⟨b, off, rfl, -, hcell⟩ := hc (by omega)
  have ht : st.take n = st := List.take_of_length_le (by omega)
  refine (Tryz.slices_BinarySearch_int b off n c st d w (by omega) (by omega) (fun j hj => ?_) ?_).mono ?_
  ·refine hcell j _ ?_
   rw [vj, List.getElem?_eq_getElem hj, List.getD_eq_getElem?_getD, List.getElem?_eq_getElem hj]
   rfl
  ·rw [ht]; exact ho.imp fun h => Int.le_of_lt h
  ·rw [ht]
   rintro e w' ⟨rfl, q, rfl⟩
   exact ⟨by simp, q, rfl⟩
section
variable {w : World} {base n c i : Nat} {A : Option Addr} {st : List Int}
theorem mV (h : zQ w base A n c st) : A = none ∧ n = 0 ∧ c = 0 ∨ ∃ (b : Nat) (cur : Array Value), A = some ⟨b, 0, none⟩ ∧ base ≤ b ∧ b < w.heap.size ∧ w.heap[b]? = some (.cells cur 3 (0, 0)) ∧ n ≤ c ∧ c ≤ 9223372036854775807 ∧ cur.size = c ∧ ∀ (j : Nat) (u : Value), (zK st)[j]? = some u → cur[j]? = some u := by
 have hl := h.lt
 rcases h.2 with ⟨h0, hn⟩ | ⟨g, cap, cur, h0, hg, hh, h1, h2, h3, h4⟩
 ·injection h0 with e1 e2 e3
  exact .inl ⟨e1, hn, e3⟩
 ·injection h0 with e1 e2 e3
  subst e1 e3
  refine .inr ⟨g, cur, rfl, hg, (hl g rfl).2, hh, h1, by simp [maxLen] at h2; exact h2, by omega, fun j u hu => ?_⟩
  rw [← h4, List.getElem?_take] at hu
  split at hu
  ·simpa using hu
  ·cases hu
end
theorem jV {st : List Int} {i : Nat} (d : Int) (hi : i ≤ st.length) (j : Nat) : (st.take i ++ d :: st.drop i)[j]? = if j < i then st[j]? else if j = i then some d else st[j - 1]? := by
 have hl : (st.take i).length = i := by rw [List.length_take]; omega
 rcases Nat.lt_trichotomy j i with h | h | h
 ·rw [if_pos h, List.getElem?_append_left (by omega), List.getElem?_take, if_pos h]
 ·subst h; rw [if_neg (by omega), if_pos rfl, List.getElem?_append_right (by omega), hl, Nat.sub_self]; rfl
 ·rw [if_neg (by omega), if_neg (by omega), List.getElem?_append_right (by omega), hl, List.getElem?_cons, if_neg (by omega), List.getElem?_drop]
  congr 1; omega
def je (w : World) (base n : Nat) (L : List Int) (e : Ending) (w' : World) : Prop := ∃ (A' : Option Addr) (c' : Nat), e = .returned (.slice A' (n + 1) c') ∧ Hid (Sl w' w'.heap.size 1 A' (n + 1) c' (zK L)) ∧ Hid (∀ b off, A' = some ⟨b, off, none⟩ → base ≤ b) ∧ Hid (Below base w w')
theorem ru {w' : World} {n c i b : Nat} {st : List Int} {d : Int} (hl : st.length = n) (hi : i ≤ n) (hc : n + 1 ≤ c) (hm : c ≤ 9223372036854775807) (hb : b < w'.heap.size)
 (h1 : ∀ j u, j < i → (zK st)[j]? = some u → w'.cell? ⟨b, j, none⟩ = some u) (h2 : w'.cell? ⟨b, i, none⟩ = some (.int .i64 d)) (h3 : ∀ j u, i < j → (zK st)[j - 1]? = some u → w'.cell? ⟨b, j, none⟩ = some u) :
 Sl w' w'.heap.size 1 (some ⟨b, 0, none⟩) (n + 1) c (zK (st.take i ++ d :: st.drop i)) := by
 refine ⟨by rw [xF]; simp; omega, hc, hm, (fun e => by cases e), fun _ => ⟨b, 0, rfl, hb, fun j u hu => ?_⟩⟩
 rw [Nat.zero_add]
 rw [vj, jV d (by omega)] at hu
 rcases Nat.lt_trichotomy j i with h | h | h
 ·rw [if_pos h] at hu; exact h1 j u h (by rw [vj]; exact hu)
 ·subst h; rw [if_neg (by omega), if_pos rfl] at hu; cases hu; exact h2
 ·rw [if_neg (by omega), if_neg (by omega)] at hu; exact h3 j u h (by rw [vj]; exact hu)
theorem mh (A : Option Addr) (n c i base vb : Nat) (st : List Int) (d : Int) (w : World) (h : zQ w base A n c st) (hv : Blk w vb 3 #[.int .i64 d]) (hvb : base ≤ w.heap.size) (hne : ∀ b, A = some ⟨b, 0, none⟩ → b ≠ vb) (hi : i ≤ n) (hn : n ≤ 1000000) :
 Calls Tryz.prog 105 #[.slice A n c, .int .i64 (i : Int), .slice (some ⟨vb, 0, none⟩) 1 1] w (je w base n (st.take i ++ d :: st.drop i)) := by
 have hln := h.len
 have hvs : ∀ j v, [Value.int .i64 d][j]? = some v → w.cell? ⟨vb, 0 + j, none⟩ = some v := fun j v e => by
  rcases j with _ | j
  ·exact (hv.cell 0).trans e
  ·cases e
 have h1v : ∀ v ∈ [Value.int .i64 d], v.oneCell' = true := fun v hv => by rw [List.mem_singleton.1 hv]; rfl
 have hcl : (zK st).length = n := by rw [xF, hln]
 rcases mV h with ⟨rfl, rfl, rfl⟩ | ⟨b, cur, rfl, hbb, hbl, hh, hnc, hcm, hcs, hcur⟩
 ·obtain rfl : i = 0 := by omega
  obtain rfl : st = [] := List.eq_nil_of_length_eq_zero hln
  refine (Any2.slices_Insert_int_end_grow Tryz.laysNm221 none 0 0 vb 0 1 1 [] [.int .i64 d] w (by decide) lR (by decide) (by decide) rfl rfl (fun _ => rfl) (fun a e => by cases e) hvs h1v).mono ?_
  rintro e w' hw
  simp only [et3] at hw
  obtain ⟨rfl, rfl⟩ := hw
  refine ⟨_, _, rfl, ?_, (fun b off e => by cases e; exact hvb), ((Below.refl _ _).drew).alloc (by simp; omega) _⟩
  refine ru rfl lR (grownCap_ge ..) ?_ (by simp) (fun j u hj => by omega) ?_ (fun j u _ hu => by cases hu)
  ·have := grownCap_le_maxLen w (0 + 1) 0 3 (by decide); simpa [maxLen] using this
  ·have := (Blk.new w.drew 3 ((([] ++ [Value.int .i64 d] : List Value)).toArray ++ Builtin.zeroCells (Value.int .i64 0).cells (grownCap w (0 + 1) 0 3 - (0 + 1)))).cell 0
   refine this.trans ?_
   rw [Array.getElem?_append_left (by simp)]
   rfl
 ·have hcell : ∀ j u, (zK st)[j]? = some u → w.cell? ⟨b, j, none⟩ = some u := fun j u hu => (cell_of_row w b j cur _ _ hh).trans (hcur j u hu)
  have hsome : ∀ j, j < c → (w.cell? ⟨b, j, none⟩).isSome = true := fun j hj => by
   rw [cell_of_row w b j cur _ _ hh, Array.getElem?_eq_getElem (by omega)]; rfl
  have hfz : ∀ j, w.frozen? ⟨b, j, none⟩ = false := fun j => by simp [World.frozen?, hh]
  have hbv : vb ≠ b := fun e => hne b rfl e.symm
  rcases Nat.lt_or_ge c (n + 1) with hr | hr
  ·obtain rfl : c = n := by omega
   rcases Nat.lt_or_ge i c with hic | hic
   ·refine (Any2.slices_Insert_int_grow Tryz.laysNm221 b 0 c c i vb 0 1 1 (zK st) [.int .i64 d] w hic (by decide) lR hr (by omega) hcl rfl (fun j v e => by rw [Nat.zero_add]; exact hcell j v e) hvs (vi _) h1v).mono ?_
    rintro e w' hw
    simp only [et3] at hw
    obtain ⟨rfl, rfl⟩ := hw
    refine ⟨_, _, rfl, ?_, (fun b off e => by cases e; exact hvb), ?_⟩
    ·obtain ⟨Z, hZ⟩ : ∃ Z : Array Value, Z = ((zK st).take i).toArray ++ Builtin.zeroCells (Value.int .i64 0).cells (c + 1 - i) ++ Builtin.zeroCells (Value.int .i64 0).cells (grownCap w (c + 1) c 3 - (c + 1)) := ⟨_, rfl⟩
     have hB0 : Blk (w.alloc (.cells Z 3)).drew w.heap.size 3 Z := Blk.new w 3 Z
     have hlz : ((zK st).take i).length = i := by rw [List.length_take, hcl]; omega
     have hZs : c + 1 ≤ Z.size := by rw [hZ]; simp [Builtin.zeroCells, Value.cells]; omega
     have hS : ∀ j, j < c + 1 → ((w.alloc (.cells Z 3)).drew.cell? ⟨w.heap.size, j, none⟩).isSome = true := fun j hj => by rw [hB0.cell j, Array.getElem?_eq_getElem (by omega)]; rfl
     have hd : ((zK st).drop i).length = c - i := by rw [List.length_drop, hcl]
     rw [← hZ]
     refine ru hln hi (grownCap_ge ..) ?_ ?_ (fun j u hj hu => ?_) ?_ (fun j u hj hu => ?_)
     ·have := grownCap_le_maxLen w (c + 1) c 3 (by simp [maxLen]; omega); simpa [maxLen] using this
     ·have := (below_setCells_w (B := 0) (g := w.heap.size) (Nat.zero_le _) ((zK st).drop i) (i + 1) ((w.alloc (.cells Z 3)).drew.setCells w.heap.size i [.int .i64 d]).drew).size
      have h2 := (below_setCells_w (B := 0) (g := w.heap.size) (Nat.zero_le _) [.int .i64 d] i (w.alloc (.cells Z 3)).drew).size
      have h3 : (w.alloc (.cells Z 3)).drew.heap.size = w.heap.size + 1 := by simp
      have h4 : ((w.alloc (.cells Z 3)).drew.setCells w.heap.size i [.int .i64 d]).drew.heap.size = ((w.alloc (.cells Z 3)).drew.setCells w.heap.size i [.int .i64 d]).heap.size := rfl
      omega
     ·rw [World.cell?_setCells_out _ _ _ _ _ (fun _ _ => .inl (by simp; omega))]
      show (World.setCells _ _ _ _).cell? _ = _
      rw [World.cell?_setCells_out _ _ _ _ _ (fun _ _ => .inl (by simp; omega)), hB0.cell j, hZ, Array.getElem?_append_left (by simp [Builtin.zeroCells]; omega), Array.getElem?_append_left (by simp; omega)]
      simp only [List.getElem?_toArray]
      rw [List.getElem?_take, if_pos hj]; exact hu
     ·rw [World.cell?_setCells_out _ _ _ _ _ (fun _ _ => .inl (by simp))]
      exact World.cell?_setCells_in w.heap.size [.int .i64 d] i (w.alloc (.cells Z 3)).drew (fun j hj => hS _ (by simp at hj; omega)) 0 (by simp)
     ·have hj1 : j - 1 < c := by rw [← hcl]; exact (List.getElem?_eq_some_iff.1 hu).1
      have := World.cell?_setCells_in w.heap.size ((zK st).drop i) (i + 1) ((w.alloc (.cells Z 3)).drew.setCells w.heap.size i [.int .i64 d]).drew (fun k hk => by
       show ((World.setCells _ _ _ _).cell? _).isSome = true
       rw [World.cell?_setCells_out _ _ _ _ _ (fun _ _ => .inr (by simp))]
       exact hS _ (by rw [hd] at hk; omega)) (j - (i + 1)) (by rw [hd]; omega)
      rw [show i + 1 + (j - (i + 1)) = j by omega] at this
      rw [this, List.getElem_drop, ← hu, List.getElem?_eq_getElem (by rw [hcl]; omega)]
      simp only [Option.some.injEq]
      congr 1; omega
    ·exact (((Below.refl _ _).alloc hvb _).drew.trans (below_setCells_w hvb _ _ _)).drew.trans (below_setCells_w hvb _ _ _)
   ·obtain rfl : i = c := by omega
    refine (Any2.slices_Insert_int_end_grow Tryz.laysNm221 (some ⟨b, 0, none⟩) i i vb 0 1 1 (zK st) [.int .i64 d] w (by decide) lR hr (by omega) hcl rfl (fun e => by cases e) (fun a e j v hj => by cases e; rw [xN]; rw [Nat.zero_add]; exact hcell j v hj) hvs h1v).mono ?_
    rintro e w' hw
    simp only [et3] at hw
    obtain ⟨rfl, rfl⟩ := hw
    refine ⟨_, _, rfl, ?_, (fun b off e => by cases e; exact hvb), ((Below.refl _ _).drew).alloc (by simp; omega) _⟩
    have hB0 := Blk.new w.drew 3 ((zK st ++ [Value.int .i64 d]).toArray ++ Builtin.zeroCells (Value.int .i64 0).cells (grownCap w (i + 1) i 3 - (i + 1)))
    refine ru hln hi (grownCap_ge ..) ?_ (by simp) (fun j u hj hu => ?_) ?_ (fun j u hj hu => ?_)
    ·have := grownCap_le_maxLen w (i + 1) i 3 (by simp [maxLen]; omega); simpa [maxLen] using this
    ·refine (hB0.cell j).trans ?_
     rw [Array.getElem?_append_left (by simp [hcl]; omega), List.getElem?_toArray, List.getElem?_append_left (by omega)]
     exact hu
    ·refine (hB0.cell i).trans ?_
     rw [Array.getElem?_append_left (by simp [hcl]), List.getElem?_toArray, List.getElem?_append_right (by omega), hcl, Nat.sub_self]
     rfl
    ·have := (List.getElem?_eq_some_iff.1 hu).1
     omega
  ·rcases Nat.lt_or_ge i n with hic | hic
   ·refine (Any2.slices_Insert_int_shift Tryz.laysNm221 b 0 n c i vb 0 1 1 (zK st) [.int .i64 d] w hic (by decide) hr hcm hbv hcl rfl (fun j v e => by rw [Nat.zero_add]; exact hcell j v e) (fun j hj => by rw [Nat.zero_add]; exact hsome j (by omega)) (fun j _ => by rw [Nat.zero_add]; exact hfz j) hvs (vi _) h1v 3 3 1 c (by unfold World.shape?; rw [show w.heap[vb]? = _ from hv]; rfl) (by unfold World.shape?; rw [hh]; simp [hcs]) (by omega) (hv.frozen 0) (hv.frozen 1)).mono ?_
    rintro e w' ⟨rfl, rfl⟩
    have hd : ((zK st).drop i).length = n - i := by rw [List.length_drop, hcl]
    refine ⟨_, _, rfl, ?_, (fun b off e => by cases e; exact hbb), ((Below.refl _ _).drew.trans (below_setCells_w hbb _ _ _)).trans (below_setCells_w hbb _ _ _)⟩
    refine ru hln hi hr hcm ?_ (fun j u hj hu => ?_) ?_ (fun j u hj hu => ?_)
    ·have h1 := (below_setCells_w (B := 0) (g := b) (Nat.zero_le _) ((zK st).drop i) (0 + (i + 1)) w.drew).size
     have h2 := (below_setCells_w (B := 0) (g := b) (Nat.zero_le _) [.int .i64 d] (0 + i) (w.drew.setCells b (0 + (i + 1)) ((zK st).drop i))).size
     have h3 : w.drew.heap.size = w.heap.size := rfl
     omega
    ·rw [World.cell?_setCells_out _ _ _ _ _ (fun _ _ => .inl (by simp; omega)), World.cell?_setCells_out _ _ _ _ _ (fun _ _ => .inl (by simp; omega))]
     exact hcell j u hu
    ·have := World.cell?_setCells_in b [.int .i64 d] (0 + i) (w.drew.setCells b (0 + (i + 1)) ((zK st).drop i)) (fun j hj => by
      rw [World.cell?_setCells_out _ _ _ _ _ (fun _ _ => .inl (by simp at hj ⊢; omega))]
      rw [Nat.zero_add]
      exact hsome (i + j) (by simp at hj; omega)) 0 (by simp)
     simp only [Nat.zero_add, Nat.add_zero] at this ⊢
     exact this
    ·have hj1 : j - 1 < n := by rw [← hcl]; exact (List.getElem?_eq_some_iff.1 hu).1
     rw [World.cell?_setCells_out _ _ _ _ _ (fun _ _ => .inr (by simp; omega))]
     have := World.cell?_setCells_in b ((zK st).drop i) (0 + (i + 1)) w.drew (fun k hk => by rw [hd] at hk; rw [Nat.zero_add]; exact hsome (i + 1 + k) (by omega)) (j - (i + 1)) (by rw [hd]; omega)
     rw [show 0 + (i + 1) + (j - (i + 1)) = j by omega] at this
     rw [this, List.getElem_drop, ← hu, List.getElem?_eq_getElem (by rw [hcl]; omega)]
     simp only [Option.some.injEq]
     congr 1; omega
   ·obtain rfl : i = n := by omega
    refine (Any2.slices_Insert_int_end_room Tryz.laysNm221 b 0 i c vb 0 1 1 [.int .i64 d] w (by decide) hr hcm rfl (fun j hj => by rw [Nat.zero_add]; exact hsome (i + j) (by omega)) (fun j _ => by rw [Nat.zero_add]; exact hfz (i + j)) hvs h1v).mono ?_
    rintro e w' ⟨rfl, rfl⟩
    refine ⟨_, _, rfl, ?_, (fun b off e => by cases e; exact hbb), below_setCells_w hbb _ _ _⟩
    refine ru hln hi hr hcm ?_ (fun j u hj hu => ?_) ?_ (fun j u hj hu => ?_)
    ·have h1 := (below_setCells_w (B := 0) (g := b) (Nat.zero_le _) [.int .i64 d] (0 + i) w).size
     omega
    ·rw [World.cell?_setCells_out _ _ _ _ _ (fun _ _ => .inl (by simp; omega))]
     exact hcell j u hu
    ·have := World.cell?_setCells_in b [.int .i64 d] (0 + i) w (fun j hj => by rw [Nat.zero_add]; exact hsome (i + j) (by simp at hj; omega)) 0 (by simp)
     simp only [Nat.zero_add, Nat.add_zero] at this ⊢
     exact this
    ·have := (List.getElem?_eq_some_iff.1 hu).1
     omega
def jf (w : World) (base : Nat) (A : Option Addr) (n c : Nat) (L : List Int) (e : Ending) (w' : World) : Prop := e = .returned (.slice A (n - 1) c) ∧ Hid (Sl w' w'.heap.size 1 A (n - 1) c (zK L)) ∧ Hid (Below base w w')
theorem ja (A : Option Addr) (n c i base : Nat) (st : List Int) (w : World) (h : zQ w base A n c st) (hi : i < n) :
 Calls Tryz.prog 106 #[.slice A n c, .int .i64 (i : Int), .int .i64 ((i : Int) + 1)] w (jf w base A n c (st.take i ++ st.drop (i + 1))) := by
 rw [show (i : Int) + 1 = ((i + 1 : Nat) : Int) from rfl]
 have hln := h.len
 rcases mV h with ⟨rfl, rfl, rfl⟩ | ⟨b, cur, rfl, hbb, hbl, hh, hnc, hcm, hcs, hcur⟩
 ·omega
 ·have hcell : ∀ j u, (zK st)[j]? = some u → w.cell? ⟨b, j, none⟩ = some u := fun j u hu => (cell_of_row w b j cur _ _ hh).trans (hcur j u hu)
  refine (Tryz.slices_Delete_int_cells b 0 n c i (i + 1) st w (by omega) hnc hcm (by omega) (by omega) (fun j hj => ?_) (fun j _ => by simp [World.frozen?, hh])).mono ?_
  ·rw [Nat.zero_add]
   refine hcell j _ ?_
   rw [vj, List.getElem?_eq_getElem hj, List.getD_eq_getElem?_getD, List.getElem?_eq_getElem hj]
   rfl
  ·rintro e w' ⟨rfl, q, rfl⟩
   rw [List.take_of_length_le (show st.length ≤ n by omega), show i + 1 - i = 1 by omega]
   obtain ⟨L, hL⟩ : ∃ L, L = st.take i ++ st.drop (i + 1) := ⟨_, rfl⟩
   have hLl : L.length = n - 1 := by rw [hL]; simp; omega
   rw [← hL]
   refine ⟨rfl, ⟨by rw [xF, hLl, Nat.mul_one], by omega, hcm, (fun e => by cases e), fun _ => ⟨b, 0, rfl, ?_, fun j u hu => ?_⟩⟩, (below_drewN bR q).trans (below_setCells_w hbb _ _ _)⟩
   ·have := (below_setCells_w (B := 0) (g := b) (Nat.zero_le _) ((L ++ List.replicate 1 0).map (Value.int .i64)) 0 (w.drewN q)).size
    have h3 : (w.drewN q).heap.size = w.heap.size := rfl
    omega
   ·have hj : j < L.length := by have := (List.getElem?_eq_some_iff.1 hu).1; rwa [xF] at this
    have := World.cell?_setCells_in b ((L ++ List.replicate 1 0).map (Value.int .i64)) 0 (w.drewN q) (fun k hk => by
     show (w.cell? _).isSome = true
     rw [Nat.zero_add, cell_of_row w b k cur _ _ hh, Array.getElem?_eq_getElem (by simp at hk; omega)]
     rfl) j (by simp; omega)
    rw [this]
    rw [yi, List.getElem?_eq_getElem (by simpa using hj)] at hu
    rw [← hu]
    simp [hj]
end
section
open Go.RowKit
theorem sW {d : Int} : ∀ {st : List Int}, st.Pairwise (· < ·) → (∀ x ∈ st.take (st.countP (· < d)), x < d) ∧ ∀ x ∈ st.drop (st.countP (· < d)), d ≤ x
 | [], _ => ⟨fun x h => by simp at h, fun x h => by simp at h⟩
 | y :: st, h => by
  rw [List.pairwise_cons] at h
  by_cases hy : y < d
  ·rw [List.countP_cons_of_pos (by simpa using hy)]
   obtain ⟨h1, h2⟩ := sW (d := d) h.2
   refine ⟨fun x hx => ?_, fun x hx => h2 x (by simpa using hx)⟩
   rw [List.take_succ_cons] at hx
   rcases List.mem_cons.1 hx with rfl | hx
   ·exact hy
   ·exact h1 x hx
  ·have h0 : (y :: st).countP (· < d) = 0 := by
    rw [List.countP_eq_zero]
    intro x hx
    rcases List.mem_cons.1 hx with rfl | hx
    ·simpa using hy
    ·have := h.1 x hx; simp; omega
   rw [h0]
   refine ⟨fun x hx => by simp at hx, fun x hx => ?_⟩
   rw [List.drop_zero] at hx
   rcases List.mem_cons.1 hx with rfl | hx
   ·omega
   ·have := h.1 x hx; omega
section
variable {nd : Nat} {st : List Int} {d : Int}
theorem jo (h : xh nd st) (hd : d ∈ st) : xH nd st d true = st := by
 refine tf (vY ..) h.srt fun x => ?_
 rw [vZ]
 constructor
 ·rintro ⟨_, h2⟩
  split at h2
  ·next e => rw [e]; exact hd
  ·exact h2
 ·intro hx
  refine ⟨h.mem hx, ?_⟩
  split
  ·rfl
  ·exact hx
theorem jI (h : xh nd st) (hd : d ∉ st) : xH nd st d false = st := by
 refine tf (vY ..) h.srt fun x => ?_
 rw [vZ]
 constructor
 ·rintro ⟨_, h2⟩
  split at h2
  ·cases h2
  ·exact h2
 ·intro hx
  refine ⟨h.mem hx, ?_⟩
  rw [if_neg (fun e : x = d => hd (e ▸ hx))]
  exact hx
theorem jJ (h : xh nd st) (hd : d ∉ st) (h0 : 0 ≤ d ∧ d < nd) : st.take (st.countP (· < d)) ++ d :: st.drop (st.countP (· < d)) = xH nd st d true := by
 obtain ⟨h1, h2⟩ := sW (d := d) h.srt
 generalize st.countP (· < d) = i at *
 have hs := h.srt
 rw [← List.take_append_drop i st, List.pairwise_append] at hs
 have hm : ∀ x, x ∈ st ↔ x ∈ st.take i ∨ x ∈ st.drop i := fun x => by rw [← List.mem_append, List.take_append_drop]
 refine tf ?_ (vY ..) fun x => ?_
 ·rw [List.pairwise_append, List.pairwise_cons]
  refine ⟨hs.1, ⟨fun x hx => ?_, hs.2.1⟩, fun x hx y hy => ?_⟩
  ·have := h2 x hx
   have hne : x ≠ d := fun e => hd ((hm d).2 (.inr (e ▸ hx)))
   omega
  ·rcases List.mem_cons.1 hy with rfl | hy
   ·exact h1 x hx
   ·exact hs.2.2 x hx y hy
 ·rw [vZ, List.mem_append, List.mem_cons]
  by_cases e : x = d
  ·subst e; simp [h0]
  ·rw [if_neg e, hm]
   constructor
   ·rintro (hx | hx | hx)
    ·exact ⟨h.mem ((hm x).2 (.inl hx)), .inl hx⟩
    ·exact absurd hx e
    ·exact ⟨h.mem ((hm x).2 (.inr hx)), .inr hx⟩
   ·rintro ⟨_, hx | hx⟩
    ·exact .inl hx
    ·exact .inr (.inr hx)
theorem jK (h : xh nd st) (hd : d ∈ st) : st.countP (· < d) < st.length ∧ st.take (st.countP (· < d)) ++ st.drop (st.countP (· < d) + 1) = xH nd st d false := by
 obtain ⟨h1, h2⟩ := sW (d := d) h.srt
 generalize st.countP (· < d) = i at *
 have hs := h.srt
 have hm : ∀ x, x ∈ st ↔ x ∈ st.take i ∨ x ∈ st.drop i := fun x => by rw [← List.mem_append, List.take_append_drop]
 have hdd : d ∈ st.drop i := by
  rcases (hm d).1 hd with h3 | h3
  ·have := h1 d h3; omega
  ·exact h3
 have hi : i < st.length := by
  rcases Nat.lt_or_ge i st.length with h3 | h3
  ·exact h3
  ·rw [List.drop_eq_nil_of_le h3] at hdd; cases hdd
 refine ⟨hi, ?_⟩
 have e0 : st.drop i = st[i] :: st.drop (i + 1) := List.drop_eq_getElem_cons hi
 rw [← List.take_append_drop i st, List.pairwise_append] at hs
 rw [e0] at hs hdd h2
 have hsd := List.pairwise_cons.1 hs.2.1
 have ed : st[i] = d := by
  rcases List.mem_cons.1 hdd with h3 | h3
  ·exact h3.symm
  ·have := hsd.1 d h3
   have := h2 st[i] (List.mem_cons_self ..)
   omega
 refine tf ?_ (vY ..) fun x => ?_
 ·rw [List.pairwise_append]
  exact ⟨hs.1, hsd.2, fun x hx y hy => hs.2.2 x hx y (List.mem_cons_of_mem _ hy)⟩
 ·rw [vZ, List.mem_append]
  have hmx : x ∈ st ↔ x ∈ st.take i ∨ x = d ∨ x ∈ st.drop (i + 1) := by rw [hm, e0, List.mem_cons, ed]
  constructor
  ·rintro (hx | hx)
   ·refine ⟨h.mem (hmx.2 (.inl hx)), ?_⟩
    rw [if_neg (fun e => by have := h1 x hx; omega)]
    exact hmx.2 (.inl hx)
   ·refine ⟨h.mem (hmx.2 (.inr (.inr hx))), ?_⟩
    rw [if_neg (fun e => by have := hsd.1 x hx; omega)]
    exact hmx.2 (.inr (.inr hx))
  ·rintro ⟨_, hx⟩
   split at hx
   ·cases hx
   ·next e =>
    rcases hmx.1 hx with h3 | h3 | h3
    ·exact .inl h3
    ·exact absurd h3 e
    ·exact .inr h3
end
theorem vt.stuck {w w1 : World} {B sb nn cn nd cd n c nl cl nt ct n' c' : Nat} {An Ad As Al At A' : Option Addr} {ns : List Nd} {ds : List Dv} {F : Fd} {k d p q : Int} {lk sk : Bool} {l' : List Int} (h : vt w B sb An nn cn ns Ad nd cd ds As n c Al nl cl At nt ct F k d p q lk sk) (hb : Below w.heap.size w w1) (hs : Sl w1 w1.heap.size 1 A' n' c' (zK l')) (hA : ∀ b off, A' = some ⟨b, off, none⟩ → sb < b) (hn' : n' ≤ nt + 1) :
 uh w B sb An nn cn Ad nd cd k d p q lk sk ⟨F.s, F.ls, l'⟩ (w1.setCell ⟨sb, 4, none⟩ (.slice A' n' c')) := by
 have hl := h.b.lt
 have h1 := h.later hb
 refine ⟨zO (zN hb _) (zY _ _ _), As, n, c, Al, nl, cl, A', n', c', ?_, ?_, ?_, ?_, by have := h.bn; exact ⟨by omega, by omega, by omega⟩⟩
 ·have := h1.b.set 4 (.slice A' n' c')
  unfold scV at this ⊢
  exact this
 ·exact .of_sl (h1.hs.setCell (p := ⟨sb, 4, none⟩) h.bB _) (by have := h.bB; have := hb.size; simp; omega)
 ·exact .of_sl (h1.hl.setCell (p := ⟨sb, 4, none⟩) h.bB _) (by have := h.bB; have := hb.size; simp; omega)
 ·refine .of_new ?_ (fun b off e => Nat.le_of_lt (hA b off e))
  obtain ⟨g1, g2, g3, g4, g5⟩ := hs
  refine ⟨g1, g2, g3, g4, fun hn => ?_⟩
  obtain ⟨b, off, e, hbb, hc⟩ := g5 hn
  refine ⟨b, off, e, by simpa [World.setCell] using hbb, fun j u hu => ?_⟩
  exact (World.cell?_of_block (Below.heap_setCell w1 ⟨sb, 4, none⟩ _ b (by have := hA b off e; simp; omega))).trans (hc j u hu)
theorem yg {w : World} {sb nn cn nd cd n c nl cl nt ct : Nat} {An Ad As Al At : Option Addr} {k d p q : Int} {lk sk : Bool} (h : Blk w sb 90 (scV An nn cn Ad nd cd As n c Al nl cl At nt ct k d p q lk sk)) :
 w.cell? ⟨sb, 4, none⟩ = some (.slice At nt ct) ∧ w.cell? ⟨sb, 6, none⟩ = some (.int .i64 d) := by
 unfold scV at h
 exact ⟨h.cell 4, h.cell 6⟩
theorem mg (B sb : Nat) (An Ad As Al At : Option Addr) (nn cn nd cd n c nl cl nt ct : Nat) (ns : List Nd) (ds : List Dv) (F : Fd) (k p q : Int) (d : Nat) (lk sk b : Bool) (w : World) (h : vt w B sb An nn cn ns Ad nd cd ds As n c Al nl cl At nt ct F k d p q lk sk) (hok : xh ds.length F.st) (hdn : d < ds.length) (hn : nt ≤ 1000000) :
 Calls Tryz.prog 77 #[.pointer (some ⟨sb, 0, none⟩), .bool b] w fun e w' => e = .returned (.tuple #[]) ∧ uh w B sb An nn cn Ad nd cd k d p q lk sk ⟨F.s, F.ls, xH ds.length F.st d b⟩ w' := by
 have HH := iD h
 have HLT : Hid (F.st.length = nt) := h.ht.len (fun _ => rfl) (by decide)
 obtain ⟨a4, a6⟩ := yg h.b
 have HBS : Hid (∀ m, Calls Tryz.prog 46 #[.slice At nt ct, .int .i64 (d : Int)] (w.drewN m) fun e w' => e = .returned (.tuple #[.int .i64 ((F.st.countP (· < (d : Int)) : Nat) : Int), .bool (decide ((d : Int) ∈ F.st))]) ∧ ∃ q, w' = (w.drewN m).drewN q) := fun m => sr At nt ct B F.st d (w.drewN m) (h.ht.drewN m) hn hok.srt
 have HOK := iD hok
 clear h hok
 obtain ⟨i, hi⟩ : ∃ i, i = F.st.countP (· < (d : Int)) := ⟨_, rfl⟩
 rw [← hi] at HBS
 have HI := iD hi
 clear hi
 by_cases hm : (d : Int) ∈ F.st
 ·have HM := iD hm
  rw [decide_eq_true hm] at HBS
  clear hm
  rcases b with _ | _
  ·obtain ⟨hi, he⟩ := jK HOK.out HM.out
   rw [← HI.out] at hi he
   rw [HLT.out] at hi
   have HEQ := iD he
   clear he
   have e1 : IntKind.i64.wrap ((i : Int) + 1) = (i : Int) + 1 := IntWalk.i64_in _ (by omega)
   go_enter Tryz.func77, Tryz.ntmps77
   go_wp2_with fail
   go_quiet ((go_at_call 46; exact Calls.quiet_of (HBS.out _)))
   have HQ := iD (HH.out.later (below_drewN bR nq))
   have HG0 : Hid (Below w.heap.size w (w.drewN nq)) := below_drewN bR nq
   generalize World.drewN w nq = wq at *
   obtain ⟨b4, b6⟩ := yg HQ.out.b
   clear a4 a6 HBS
   go_wp2_with fail
   refine (x9 At nt ct B F.st wq HQ.out.ht HQ.out.le hn).mono ?_
   rintro e w1 ⟨A1, c1, rfl, hO, hb1⟩
   rw [HLT.out] at hO ⊢
   have HO := iD hO.out
   have HB1 : Hid (Below w.heap.size w w1) := HG0.out.trans (hb1.out.mono HG0.out.size)
   clear hO hb1 b4 b6
   go_wp2_with fail
   refine (ja A1 nt c1 i wq.heap.size F.st w1 HO.out hi).mono ?_
   rintro e w2 ⟨rfl, hS2, hb2⟩
   have HB2 : Hid (Below w.heap.size w w2) := HB1.out.trans (hb2.out.mono HG0.out.size)
   have HS2 := iD hS2.out
   obtain ⟨b4, -⟩ := yg (HH.out.later HB2.out).b
   have z4 := (HH.out.later HB2.out).b.frozen 4
   clear hS2 hb2
   go_wp2_with fail
   go_end0
   refine ⟨rfl, ?_⟩
   rw [← HEQ.out]
   exact HH.out.stuck HB2.out HS2.out (fun b off e => by have := (HO.out.lt b (by rw [e]; rfl)).1; have := HH.out.b.lt; have := HG0.out.size; omega) (by omega)
  ·go_enter Tryz.func77, Tryz.ntmps77
   go_wp2_with fail
   go_quiet ((go_at_call 46; exact Calls.quiet_of (HBS.out _)))
   go_wp2_with fail
   go_end0
   refine ⟨rfl, ?_⟩
   rw [jo HOK.out HM.out]
   exact HH.out.same.drewN _
 ·have HM := iD hm
  rw [decide_eq_false hm] at HBS
  clear hm
  rcases b with _ | _
  ·go_enter Tryz.func77, Tryz.ntmps77
   go_wp2_with fail
   go_quiet ((go_at_call 46; exact Calls.quiet_of (HBS.out _)))
   go_wp2_with fail
   go_end0
   refine ⟨rfl, ?_⟩
   rw [jI HOK.out HM.out]
   exact HH.out.same.drewN _
  ·have he := jJ HOK.out HM.out ⟨by omega, by omega⟩
   rw [← HI.out] at he
   have HEQ := iD he
   have HIL : Hid (i ≤ nt) := by unfold Hid; rw [HI.out, ← HLT.out]; exact List.countP_le_length
   clear he
   go_enter Tryz.func77, Tryz.ntmps77
   go_wp2_with fail
   go_quiet ((go_at_call 46; exact Calls.quiet_of (HBS.out _)))
   have HQ := iD (HH.out.later (below_drewN bR nq))
   have HG0 : Hid (Below w.heap.size w (w.drewN nq)) := below_drewN bR nq
   generalize World.drewN w nq = wq at *
   have HQD := iD (HQ.out.later (Below.refl _ _).drew)
   obtain ⟨b4, b6⟩ := yg HQ.out.b
   clear a4 a6 HBS
   go_wp2_with fail
   refine zJ (S := fun W' => W'.cell? ⟨sb, 4, none⟩ = some (.slice At nt ct) ∧ W'.cell? ⟨sb, 6, none⟩ = some (.int .i64 (d : Int))) (J := [18]) (by kernel_rfl) ?_ (fun AA => ?_)
   ·exact ⟨b4, b6⟩
   try dsimp only at AA
   refine tk 0 26 (mf 19 1) AA ?_
   refine tk 1 27 (mf 19 2) AA ?_
   refine tk 2 28 (mf 19 3) AA ?_
   refine tk 3 29 (mf 19 4) AA ?_
   refine tk 4 30 (mf 19 5) AA ?_
   refine tk 5 31 (mf 19 6) AA ?_
   refine tk 7 33 #[tt, tt, tt, tt, tt, tt, ff, tt, ff, ff, ff, ff, ff, ff, ff, ff, ff, ff, ff] AA ?_
   refine tk 8 34 #[tt, tt, tt, tt, tt, tt, ff, tt, tt, ff, ff, ff, ff, ff, ff, ff, ff, ff, ff] AA ?_
   refine tk 9 35 #[tt, tt, tt, tt, tt, tt, ff, tt, tt, tt, ff, ff, ff, ff, ff, ff, ff, ff, ff] AA ?_
   refine tk 10 36 #[tt, tt, tt, tt, tt, tt, ff, tt, tt, tt, tt, ff, ff, ff, ff, ff, ff, ff, ff] AA ?_
   refine tk 11 37 #[tt, tt, tt, tt, tt, tt, ff, tt, tt, tt, tt, tt, ff, ff, ff, ff, ff, ff, ff] AA ?_
   refine tk 12 38 #[tt, tt, tt, tt, tt, tt, ff, tt, tt, tt, tt, tt, tt, ff, ff, ff, ff, ff, ff] AA ?_
   refine vM (i := 6) (k := 13) (mf 19 13) #[tt, tt, tt, tt, tt, tt, ff, tt, tt, tt, tt, tt, tt, tt, ff, ff, ff, ff, ff] (by kernel_rfl) (by kernel_rfl) (by kernel_rfl) rfl rfl (fun K hK => ?_) (fun K hK => ?_)
   ·(go_simp; refine (x9 At nt ct B F.st wq.drew (HQD.out).ht HQD.out.le hn).mono ?_; rintro e wx ⟨A1, c1, rfl, hO, hb'⟩; rw [HLT.out] at hO ⊢; go_simp)
    refine hK.out _ _ (fun _ => ?_) (fun AA' => ?_)
    ·exact yg (HQD.out.later hb'.out).b
    replace AA := AA' rfl
    clear AA' hK K
    try dsimp only at AA
    have HB1 : Hid (Below w.heap.size w wx) := HG0.out.drew.trans (hb'.out.mono HG0.out.drew.size)
    have HX1 := iD (HQD.out.later hb'.out)
    have hsx : wq.drew.heap.size ≤ wx.heap.size := hb'.out.size
    have HO : Hid (zQ (wx.alloc (.cells #[.int .i64 (d : Int)] 3)) wq.drew.heap.size A1 nt c1 F.st) := World.ownsRow.alloc hO.out _
    have HV : Hid (Blk (wx.alloc (.cells #[.int .i64 (d : Int)] 3)) wx.heap.size 3 #[.int .i64 (d : Int)]) := Blk.new _ _ _
    have HNE : Hid (∀ b, A1 = some ⟨b, 0, none⟩ → b ≠ wx.heap.size) := fun b e => by have := (hO.out.lt b (by rw [e]; rfl)).2; omega
    clear hO hb'
    refine zG (k := 13) (mf 19 14) (by kernel_rfl) (by kernel_rfl) rfl (fun K hK => ?_)
    go_simp
    refine hK.out _ _ (fun _ => ?_) (fun AA' => ?_)
    ·exact yg (HX1.out.later ((Below.refl _ _).alloc lR _)).b
    replace AA := AA' rfl
    clear AA' hK K
    try dsimp only at AA
    have HBASE : Hid (wq.drew.heap.size ≤ (wx.alloc (.cells #[.int .i64 (d : Int)] 3)).heap.size) := by unfold Hid; rw [World.size_alloc]; omega
    have HBW : Hid (Below w.heap.size w (wx.alloc (.cells #[.int .i64 (d : Int)] 3))) := HB1.out.alloc HB1.out.size _
    have HBB : Hid (w.heap.size ≤ wq.drew.heap.size) := HG0.out.drew.size
    refine zG (k := 14) (mf 19 15) (by kernel_rfl) (by kernel_rfl) rfl (fun K hK => ?_)
    (go_simp; refine (mh A1 nt c1 i wq.drew.heap.size wx.heap.size F.st d _ HO.out HV.out HBASE.out HNE.out HIL.out hn).mono ?_; rintro e wy ⟨A', c', rfl, hS', hA', hby⟩; go_simp)
    refine hK.out _ _ (fun _ => ?_) (fun AA' => ?_)
    ·exact yg (HH.out.later (HBW.out.trans (hby.out.mono HBB.out))).b
    replace AA := AA' rfl
    clear AA' hK K
    try dsimp only at AA
    have HSY := iD hS'.out; have HAY := iD hA'.out
    have HBY : Hid (Below w.heap.size w wy) := HBW.out.trans (hby.out.mono HBB.out)
    have z4 := (HH.out.later HBY.out).b.frozen 4; have y4 := (yg (HH.out.later HBY.out).b).1
    clear hS' hA' hby
    refine tk 15 41 (mf 19 16) AA ?_
    refine tk 16 42 (mf 19 17) AA ?_
    refine tk 17 43 (mf 19 18) AA ?_
    refine zG (k := 18) (mf 19 19) (by kernel_rfl) (by kernel_rfl) rfl (fun K hK => ?_)
    go_simp
    refine hK.out _ _ (fun h => by cases h) (fun _ => ?_)
    try clear AA
    clear hK K
    refine zH (by kernel_rfl) ?_ _
    go_wp2_with fail
    go_end0
    refine ⟨rfl, ?_⟩
    rw [← HEQ.out]
    exact HH.out.stuck HBY.out HSY.out (fun b off e => by have := HAY.out b off e; have := HH.out.b.lt; have := HBB.out; omega) lR
   ·go_simp
    refine hK.out _ _ (fun _ => ?_) (fun AA' => ?_)
    ·exact yg (HQD.out.later ((Below.refl _ _).alloc lR _)).b
    replace AA := AA' rfl
    clear AA' hK K
    try dsimp only at AA
    have HQE := iD (HQD.out.later ((Below.refl _ _).alloc lR (.cells #[.int .i64 (d : Int)] 3)))
    have HB1 : Hid (Below w.heap.size w (wq.drew.alloc (.cells #[.int .i64 (d : Int)] 3))) := HG0.out.drew.alloc HG0.out.drew.size _
    refine zG (k := 6) (mf 19 14) (by kernel_rfl) (by kernel_rfl) rfl (fun K hK => ?_)
    (go_simp; refine (x9 At nt ct B F.st (wq.drew.alloc (.cells #[.int .i64 (d : Int)] 3)) (HQE.out).ht HQE.out.le hn).mono ?_; rintro e wx ⟨A1, c1, rfl, hO, hb'⟩; rw [HLT.out] at hO ⊢; go_simp)
    refine hK.out _ _ (fun _ => ?_) (fun AA' => ?_)
    ·exact yg (HQE.out.later hb'.out).b
    replace AA := AA' rfl
    clear AA' hK K
    try dsimp only at AA
    have HV : Hid (Blk wx wq.drew.heap.size 3 #[.int .i64 (d : Int)]) := (Blk.new wq.drew 3 _).below hb'.out (by rw [World.size_alloc]; omega)
    have HO := iD hO.out
    have HNE : Hid (∀ b, A1 = some ⟨b, 0, none⟩ → b ≠ wq.drew.heap.size) := fun b e => by have := (hO.out.lt b (by rw [e]; rfl)).1; rw [World.size_alloc] at this; omega
    have HBASE : Hid ((wq.drew.alloc (.cells #[.int .i64 (d : Int)] 3)).heap.size ≤ wx.heap.size) := hb'.out.size
    have HBW : Hid (Below w.heap.size w wx) := HB1.out.trans (hb'.out.mono HB1.out.size)
    have HBB : Hid (w.heap.size ≤ (wq.drew.alloc (.cells #[.int .i64 (d : Int)] 3)).heap.size) := HB1.out.size
    clear hO hb'
    refine zG (k := 14) (mf 19 15) (by kernel_rfl) (by kernel_rfl) rfl (fun K hK => ?_)
    (go_simp; refine (mh A1 nt c1 i (wq.drew.alloc (.cells #[.int .i64 (d : Int)] 3)).heap.size wq.drew.heap.size F.st d _ HO.out HV.out HBASE.out HNE.out HIL.out hn).mono ?_; rintro e wy ⟨A', c', rfl, hS', hA', hby⟩; go_simp)
    refine hK.out _ _ (fun _ => ?_) (fun AA' => ?_)
    ·exact yg (HH.out.later (HBW.out.trans (hby.out.mono HBB.out))).b
    replace AA := AA' rfl
    clear AA' hK K
    try dsimp only at AA
    have HSY := iD hS'.out; have HAY := iD hA'.out
    have HBY : Hid (Below w.heap.size w wy) := HBW.out.trans (hby.out.mono HBB.out)
    have z4 := (HH.out.later HBY.out).b.frozen 4; have y4 := (yg (HH.out.later HBY.out).b).1
    clear hS' hA' hby
    refine tk 15 41 (mf 19 16) AA ?_
    refine tk 16 42 (mf 19 17) AA ?_
    refine tk 17 43 (mf 19 18) AA ?_
    refine zG (k := 18) (mf 19 19) (by kernel_rfl) (by kernel_rfl) rfl (fun K hK => ?_)
    go_simp
    refine hK.out _ _ (fun h => by cases h) (fun _ => ?_)
    try clear AA
    clear hK K
    refine zH (by kernel_rfl) ?_ _
    go_wp2_with fail
    go_end0
    refine ⟨rfl, ?_⟩
    rw [← HEQ.out]
    exact HH.out.stuck HBY.out HSY.out (fun b off e => by have := HAY.out b off e; have := HH.out.b.lt; have := HBB.out; omega) lR
end
section
open Go.RowKit
section
variable {ns : List Nd} {ds : List Dv} {F : Fd} {d p q : Int} {x : Dv}
theorem ev1 : yB ns ds F 1 d p q = oV (xU ds d) p (yw F.ls d).isSome := rfl
theorem ev3 : yB ns ds F 3 d p q = oI (xU ds d) p := rfl
theorem to1 {d : Nat} : yu ds F 1 d p q = mvF F d p ((yw F.ls d).isSome || decide ((d : Int) ∈ F.st)) := rfl
theorem to2 {d : Nat} : yu ds F 2 d p q = mvF F d 1 ((yw F.ls d).isSome || decide ((d : Int) ∈ F.st)) := rfl
theorem to3 {d : Nat} : yu ds F 3 d p q = mvF F d p ((yw F.ls d).isSome || decide ((d : Int) ∈ F.st)) := rfl
end
theorem vN {w wq w' : World} {B sb nn cn nd cd : Nat} {An Ad : Option Addr} {k d p q : Int} {lk sk : Bool} {F' : Fd} (hb : Below w.heap.size w wq) (h : uh wq B sb An nn cn Ad nd cd k d p q lk sk F' w') : uh w B sb An nn cn Ad nd cd k d p q lk sk F' w' := by
 obtain ⟨hg, r⟩ := h
 exact ⟨zO (zN hb _) hg.out, r⟩
theorem mF (B sb : Nat) (An Ad As Al At : Option Addr) (nn cn nd cd n c nl cl nt ct : Nat) (ns : List Nd) (ds : List Dv) (F : Fd) (k p q : Int) (d : Nat) (lk sk : Bool) (w : World) (h : vt w B sb An nn cn ns Ad nd cd ds As n c Al nl cl At nt ct F k d p q lk sk)
 (hlk : lk = (yw F.ls d).isSome) (hsk : sk = decide ((d : Int) ∈ F.st)) (h0 : zk ns ds F = 0) (hdn : d < ds.length) (hn : n ≤ 1000000) (ht : nt ≤ 1000000) :
 Calls Tryz.prog 47 #[.pointer (some ⟨sb, 0, none⟩)] w (kz w B sb An nn cn Ad nd cd k d p q lk sk (yB ns ds F k d p q) (yu ds F k d p q)) := by
 have hnl : F.ls.length = nl := h.hl.len (fun _ => rfl) (by decide)
 subst hnl
 obtain ⟨hse, hle, -, hst⟩ := yo h0
 have hdl : ds.length = nd := h.hd.len (fun _ => rfl) (by decide)
 have hsl : F.s.length = n := h.hs.len (fun _ => rfl) (by decide)
 have hdd : d < n := by have := (yD hse).2.1; omega
 have hnd : d < nd := by omega
 obtain ⟨bd, off, x, hAd, hbd, hx, hc⟩ := h.hd.at (k := d) (fun _ => rfl) (by decide) hnd
 subst hAd
 have hkd : xU ds (d : Int) = x.kind := xz hx
 obtain ⟨nm, kd, xa, xb, xc⟩ := x
 have c1 : w.cell? ⟨bd, off + d * 5 + 1, none⟩ = some (.int .i64 kd) := hc 1 _ rfl
 have hndm := h.hd.le
 have HKD : Hid (xU ds (d : Int) = kd) := hkd
 have HLK := iD hlk; have HSK := iD hsk; have HLE := iD hle; have HST := iD hst; have HDL := iD hdl
 have HH := iD h
 have hb := h.b
 unfold scV at hb
 have a1 : w.cell? ⟨sb, 1, none⟩ = some (.slice (some ⟨bd, off, none⟩) nd cd) := hb.cell 1
 have a5 : w.cell? ⟨sb, 5, none⟩ = some (.int .i64 k) := hb.cell 5
 have a6 : w.cell? ⟨sb, 6, none⟩ = some (.int .i64 (d : Int)) := hb.cell 6
 have HGO : Hid (vt w B sb An nn cn ns (some ⟨bd, off, none⟩) nd cd ds As n c Al F.ls.length cl At nt ct F k d p q lk sk) := h
 clear hb h hc hx hkd hlk hsk h0 hse hle hst hdl hsl
 by_cases h1 : k = 1
 ·subst h1
  go_enter Tryz.func47, Tryz.ntmps47
  go_wp2_with fail
  go_quiet (fail)
  have HQ := iD (HH.out.later (below_drewN bR nq))
  have HG0 : Hid (Below w.heap.size w (w.drewN nq)) := below_drewN bR nq
  generalize World.drewN w nq = wq at *
  have r5 : wq.cell? ⟨sb, 5, none⟩ = some (.int .i64 1) := by have := HQ.out.b; unfold scV at this; exact this.cell 5
  clear a1 a5 a6 c1
  go_wp2_with fail
  refine (oU B sb An (some ⟨bd, off, none⟩) As Al At nn cn nd cd n c F.ls.length cl nt ct ns ds F 1 p q kd d lk sk wq HQ.out hdd hn).mono ?_
  rintro e w1 ⟨rfl, hT⟩
  have HT := iD hT
  clear hT HQ
  go_wp2_with fail
  go_ret
  refine ⟨?_, _, vN HG0.out HT.out, fun hE => ?_⟩
  ·rw [ev1, HKD.out, ← HLK.out]; rfl
  ·rw [ev1, HKD.out, ← HLK.out] at hE
   rw [to1, hE, ← HLK.out, ← HSK.out]; rfl
 have q1 : (k == 1) = false := by simpa using h1
 by_cases h2 : k = 2
 ·subst h2
  by_cases hk2 : kd = 2
  ·subst hk2
   go_enter Tryz.func47, Tryz.ntmps47
   go_wp2_with fail
   go_quiet (fail)
   have HQ := iD (HH.out.later (below_drewN bR nq))
   have HG0 : Hid (Below w.heap.size w (w.drewN nq)) := below_drewN bR nq
   generalize World.drewN w nq = wq at *
   have r5 : wq.cell? ⟨sb, 5, none⟩ = some (.int .i64 2) := by have := HQ.out.b; unfold scV at this; exact this.cell 5
   clear a1 a5 a6 c1
   go_wp2_with fail
   refine (rp B sb An (some ⟨bd, off, none⟩) As Al At nn cn nd cd n c F.ls.length cl nt ct ns ds F 2 p q 1 d lk sk wq HQ.out hdd hn).mono ?_
   rintro e w1 ⟨rfl, hT⟩
   have HT := iD hT
   clear hT HQ
   go_wp2_with fail
   go_ret
   refine ⟨?_, _, vN HG0.out HT.out, fun _ => ?_⟩
   ·unfold yB; rw [if_neg (by decide), if_pos rfl, if_pos HKD.out]; rfl
   ·rw [to2, ← HLK.out, ← HSK.out]
  ·have qk : (kd != 2) = true := by simpa using hk2
   have HE : Hid (yB ns ds F 2 d p q = 6) := by unfold Hid yB; rw [if_neg (by decide), if_pos rfl, if_neg (by rw [HKD.out]; exact hk2)]
   clear hk2
   go_enter Tryz.func47, Tryz.ntmps47
   go_wp2_with fail
   go_quiet (fail)
   have HQ := iD (HH.out.later (below_drewN bR nq))
   have HG0 : Hid (Below w.heap.size w (w.drewN nq)) := below_drewN bR nq
   generalize World.drewN w nq = wq at *
   have r5 : wq.cell? ⟨sb, 5, none⟩ = some (.int .i64 2) := by have := HQ.out.b; unfold scV at this; exact this.cell 5
   clear a1 a5 a6 c1
   go_wp2_with fail
   go_ret
   exact ⟨by rw [HE.out]; rfl, F, vN HG0.out HQ.out.same, fun hE => by rw [HE.out] at hE; cases hE⟩
 have q2 : (k == 2) = false := by simpa using h2
 by_cases h3 : k = 3
 ·subst h3
  go_enter Tryz.func47, Tryz.ntmps47
  go_wp2_with fail
  go_quiet (fail)
  have HQ := iD (HH.out.later (below_drewN bR nq))
  have HG0 : Hid (Below w.heap.size w (w.drewN nq)) := below_drewN bR nq
  generalize World.drewN w nq = wq at *
  have r5 : wq.cell? ⟨sb, 5, none⟩ = some (.int .i64 3) := by have := HQ.out.b; unfold scV at this; exact this.cell 5
  clear a1 a5 a6 c1
  go_wp2_with fail
  refine (jO B sb An (some ⟨bd, off, none⟩) As Al At nn cn nd cd n c F.ls.length cl nt ct ns ds F 3 p q kd d lk sk wq HQ.out hdd hn).mono ?_
  rintro e w1 ⟨rfl, hT⟩
  have HT := iD hT
  clear hT HQ
  go_wp2_with fail
  go_ret
  refine ⟨?_, _, vN HG0.out HT.out, fun hE => ?_⟩
  ·rw [ev3, HKD.out]; rfl
  ·rw [ev3, HKD.out] at hE
   rw [to3, hE, ← HLK.out, ← HSK.out]; rfl
 have q3 : (k == 3) = false := by simpa using h3
 by_cases h4 : k = 4
 ·subst h4
  go_enter Tryz.func47, Tryz.ntmps47
  go_wp2_with fail
  go_quiet (fail)
  have HQ := iD (HH.out.later (below_drewN bR nq))
  have HG0 : Hid (Below w.heap.size w (w.drewN nq)) := below_drewN bR nq
  generalize World.drewN w nq = wq at *
  have r5 : wq.cell? ⟨sb, 5, none⟩ = some (.int .i64 4) := by have := HQ.out.b; unfold scV at this; exact this.cell 5
  clear a1 a5 a6 c1
  go_wp2_with fail
  refine (mg B sb An (some ⟨bd, off, none⟩) As Al At nn cn nd cd n c F.ls.length cl nt ct ns ds F 4 p q d lk sk true wq HQ.out HST.out hdn ht).mono ?_
  rintro e w1 ⟨rfl, hT⟩
  have HT := iD hT
  clear hT HQ
  go_wp2_with fail
  go_ret
  exact ⟨rfl, _, vN HG0.out HT.out, fun _ => rfl⟩
 have q4 : (k == 4) = false := by simpa using h4
 by_cases h5 : k = 5
 ·subst h5
  go_enter Tryz.func47, Tryz.ntmps47
  go_wp2_with fail
  go_quiet (fail)
  have HQ := iD (HH.out.later (below_drewN bR nq))
  have HG0 : Hid (Below w.heap.size w (w.drewN nq)) := below_drewN bR nq
  generalize World.drewN w nq = wq at *
  have r5 : wq.cell? ⟨sb, 5, none⟩ = some (.int .i64 5) := by have := HQ.out.b; unfold scV at this; exact this.cell 5
  clear a1 a5 a6 c1
  go_wp2_with fail
  refine (mg B sb An (some ⟨bd, off, none⟩) As Al At nn cn nd cd n c F.ls.length cl nt ct ns ds F 5 p q d lk sk false wq HQ.out HST.out hdn ht).mono ?_
  rintro e w1 ⟨rfl, hT⟩
  have HT := iD hT
  clear hT HQ
  go_wp2_with fail
  go_ret
  exact ⟨rfl, _, vN HG0.out HT.out, fun _ => rfl⟩
 have q5 : (k == 5) = false := by simpa using h5
 by_cases h6 : k = 6
 ·subst h6
  go_enter Tryz.func47, Tryz.ntmps47
  go_wp2_with fail
  go_quiet (fail)
  have HQ := iD (HH.out.later (below_drewN bR nq))
  have HG0 : Hid (Below w.heap.size w (w.drewN nq)) := below_drewN bR nq
  generalize World.drewN w nq = wq at *
  have r5 : wq.cell? ⟨sb, 5, none⟩ = some (.int .i64 6) := by have := HQ.out.b; unfold scV at this; exact this.cell 5
  clear a1 a5 a6 c1
  go_wp2_with fail
  refine (kK B sb An (some ⟨bd, off, none⟩) As Al At nn cn nd cd n c F.ls.length cl nt ct ns ds F 6 p q d lk sk wq HQ.out hdd).mono ?_
  rintro e w1 ⟨rfl, F', hT, hF⟩
  obtain ⟨E, hE⟩ : ∃ E, E = (if yv p = true ∧ F.s.getD d 0 = p then zq ns ds F.ls ⟨(d : Int), p, q⟩ else 10) := ⟨_, rfl⟩
  rw [← hE] at hF ⊢
  have HT := iD hT; have HF := iD hF; have HE := iD hE
  clear hT hF hE HQ
  go_wp2_with fail
  go_ret
  exact ⟨by rw [HE.out]; rfl, F', vN HG0.out HT.out, fun h0 => HF.out (by rw [HE.out]; exact h0)⟩
 have q6 : (k == 6) = false := by simpa using h6
 by_cases h7 : k = 7
 ·subst h7
  obtain ⟨E, hE⟩ : ∃ E, E = (if xk (d : Int) q F.ls = none then (15 : Int) else 0) := ⟨_, rfl⟩
  have HE := iD hE
  clear hE
  go_enter Tryz.func47, Tryz.ntmps47
  go_wp2_with fail
  go_quiet (fail)
  have HQ := iD (HH.out.later (below_drewN bR nq))
  have HG0 : Hid (Below w.heap.size w (w.drewN nq)) := below_drewN bR nq
  generalize World.drewN w nq = wq at *
  have r5 : wq.cell? ⟨sb, 5, none⟩ = some (.int .i64 7) := by have := HQ.out.b; unfold scV at this; exact this.cell 5
  clear a1 a5 a6 c1
  go_wp2_with fail
  have HQD := iD (HQ.out.later (Below.refl _ _).drew)
  refine si (S := fun W' => W'.cell? ⟨sb, 0, none⟩ = some (.slice An nn cn) ∧ W'.cell? ⟨sb, 1, none⟩ = some (.slice (some ⟨bd, off, none⟩) nd cd) ∧ W'.cell? ⟨sb, 3, none⟩ = some (.slice Al F.ls.length cl) ∧ W'.cell? ⟨sb, 6, none⟩ = some (.int .i64 (d : Int)) ∧ W'.cell? ⟨sb, 7, none⟩ = some (.int .i64 p) ∧ W'.cell? ⟨sb, 8, none⟩ = some (.int .i64 q)) (J := [27]) (by kernel_rfl) ?_ (fun AA => ?_)
  ·exact th HQ.out.b
  try dsimp only at AA
  refine tK 0 56 (mf 29 1) AA ?_
  refine tK 1 57 (mf 29 2) AA ?_
  refine tK 2 58 (mf 29 3) AA ?_
  refine tK 3 59 (mf 29 4) AA ?_
  refine yV (i := 4) (d := some 60) (v := ?_) (mf 29 5) (by kernel_rfl) rfl rfl (by kernel_rfl) (by kernel_rfl) (by kernel_rfl) (by kernel_rfl) (by kernel_rfl) (by kernel_rfl) (fun _ _ _ h => h) (Or.inl ⟨by rfl, ?_⟩) AA ?_
  rotate_left
  ·(intro w hSw; (try dsimp only at hSw);  go_simp; try with_reducible rfl)
  try simp only [Act.put, sA, s0, s1]
  refine tK 5 61 (mf 29 6) AA ?_
  refine tK 6 62 (mf 29 7) AA ?_
  refine tK 7 63 (mf 29 8) AA ?_
  refine tK 8 64 (mf 29 9) AA ?_
  refine yV (i := 9) (d := some 65) (v := ?_) (mf 29 10) (by kernel_rfl) rfl rfl (by kernel_rfl) (by kernel_rfl) (by kernel_rfl) (by kernel_rfl) (by kernel_rfl) (by kernel_rfl) (fun _ _ _ h => h) (Or.inl ⟨by rfl, ?_⟩) AA ?_
  rotate_left
  ·(intro w hSw; (try dsimp only at hSw);  go_simp; try with_reducible rfl)
  try simp only [Act.put, sA, s0, s1]
  refine tK 10 66 (mf 29 11) AA ?_
  refine tK 11 67 (mf 29 12) AA ?_
  refine tK 12 68 (mf 29 13) AA ?_
  refine tK 13 69 (mf 29 14) AA ?_
  refine yV (i := 14) (d := some 70) (v := ?_) (mf 29 15) (by kernel_rfl) rfl rfl (by kernel_rfl) (by kernel_rfl) (by kernel_rfl) (by kernel_rfl) (by kernel_rfl) (by kernel_rfl) (fun _ _ _ h => h) (Or.inl ⟨by rfl, ?_⟩) AA ?_
  rotate_left
  ·(intro w hSw; (try dsimp only at hSw);  go_simp; try with_reducible rfl)
  try simp only [Act.put, sA, s0, s1]
  refine tK 15 71 (mf 29 16) AA ?_
  refine tK 16 72 (mf 29 17) AA ?_
  refine tK 17 73 (mf 29 18) AA ?_
  refine tK 18 74 (mf 29 19) AA ?_
  refine yV (i := 19) (d := some 75) (v := ?_) (mf 29 20) (by kernel_rfl) rfl rfl (by kernel_rfl) (by kernel_rfl) (by kernel_rfl) (by kernel_rfl) (by kernel_rfl) (by kernel_rfl) (fun _ _ _ h => h) (Or.inl ⟨by rfl, ?_⟩) AA ?_
  rotate_left
  ·(intro w hSw; (try dsimp only at hSw);  go_simp; try with_reducible rfl)
  try simp only [Act.put, sA, s0, s1]
  refine xX (k := 20) (mf 29 21) true (by kernel_rfl) (by kernel_rfl) (by kernel_rfl) rfl (fun K hK => ?_)
  (go_simp; refine (oq An (some ⟨bd, off, none⟩) Al nn cn nd cd cl _ _ _ ns ds F.ls d q wq.drew HLE.out HQD.out.la HQD.out.hn HQD.out.hd HQD.out.hl HQD.out.le HQD.out.le HQD.out.le HQD.out.sn HQD.out.sd).mono ?_; rintro e wx ⟨A', n', c', l', rfl, hS', hA', hn', hl', hb'⟩; rw [← HE.out]; go_simp)
  refine hK.out _ _ (fun _ => ?_) (fun AA' => ?_)
  ·exact th (HQD.out.later hb'.out).b
  replace AA := AA' rfl
  clear AA' hK K
  try dsimp only at AA
  have HSX := iD hS'.out; have HAX := iD hA'.out; have HLX := iD hl'.out; have HNX := iD hn'.out; have HBX : Hid (Below w.heap.size w wx) := HG0.out.drew.trans (hb'.out.mono HG0.out.drew.size)
  have z3 := (HQD.out.later hb'.out).b.frozen 3
  clear hS' hA' hn' hl' hb'
  refine tK 21 55 (mf 29 22) AA ?_
  refine tK 22 77 (mf 29 23) AA ?_
  refine tK 23 78 (mf 29 24) AA ?_
  refine tK 24 79 (mf 29 25) AA ?_
  refine tK 25 80 (mf 29 26) AA ?_
  refine tK 26 81 (mf 29 27) AA ?_
  refine xX (k := 27) (mf 29 28) false (by kernel_rfl) (by kernel_rfl) (by kernel_rfl) rfl (fun K hK => ?_)
  go_simp
  refine hK.out _ _ (fun h => by cases h) (fun _ => ?_)
  try clear AA
  clear hK K
  refine xX (k := 28) (mf 29 29) false (by kernel_rfl) (by kernel_rfl) (by kernel_rfl) rfl (fun K hK => ?_)
  go_simp
  refine hK.out _ _ (fun h => by cases h) (fun _ => ?_)
  try clear AA
  clear hK K
  refine sm (by kernel_rfl) ?_ _
  go_wp2_with fail
  go_ret
  refine ⟨?_, _, HH.out.locks HBX.out HSX.out (fun b off e => by have := HAX.out b off e; have := HQD.out.b.lt; omega) HNX.out, fun h0 => ?_⟩
  ·rw [HE.out]; rfl
  ·rw [HLX.out (fun e => by have e2 : yB ns ds F 7 d p q = (if xk (d : Int) q F.ls = none then 15 else 0) := rfl
                            rw [e2, if_pos e] at h0; cases h0)]
   rfl
 have q7 : (k == 7) = false := by simpa using h7
 have HE : Hid (yB ns ds F k d p q = 6) := by unfold Hid yB; rw [if_neg h1, if_neg h2, if_neg h3, if_neg (by omega), if_neg h6, if_neg h7]
 clear h1 h2 h3 h4 h5 h6 h7
 go_enter Tryz.func47, Tryz.ntmps47
 go_wp2_with fail
 go_quiet (fail)
 have HQ := iD (HH.out.later (below_drewN bR nq))
 have HG0 : Hid (Below w.heap.size w (w.drewN nq)) := below_drewN bR nq
 generalize World.drewN w nq = wq at *
 have r5 : wq.cell? ⟨sb, 5, none⟩ = some (.int .i64 k) := by have := HQ.out.b; unfold scV at this; exact this.cell 5
 clear a1 a5 a6 c1
 go_wp2_with fail
 go_ret
 exact ⟨by rw [HE.out]; rfl, F, vN HG0.out HQ.out.same, fun hE => by rw [HE.out] at hE; cases hE⟩
end
end Go.Proofs.YtepicjpdhpojnaaGreatDoor
