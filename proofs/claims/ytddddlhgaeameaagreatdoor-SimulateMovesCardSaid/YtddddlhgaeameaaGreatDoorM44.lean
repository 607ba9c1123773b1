import Derived.Test.YtddddlhgaeameaaGreatDoorM35
set_option maxRecDepth 100000
set_option maxHeartbeats 4000000
namespace Go.Proofs.YtddddlhgaeameaaGreatDoor
section
open Go.RowKit
section
variable {P : Program} {ops : Array Oper} {A : Act} {L : List (Nat × Value)} {n : Nat} {oi : Oper}
end
def kV (hz : List Int → List Int) (g : Int → Prop) (rows : List (List Int)) (k : Nat) (out : List Int) : Prop := out.length ≤ 7 * k ∧ out.Nodup ∧ ∀ h : Int, h ∈ out ↔ ∃ s ∈ rows.take k, h ∈ hz s ∧ g h
def tJ (hz : List Int → List Int) (g : Int → Prop) (rows : List (List Int)) (k : Nat) (s : List Int) (j : Nat) (out : List Int) : Prop := out.length ≤ 7 * k + j ∧ out.Nodup ∧ ∀ h : Int, h ∈ out ↔ (∃ s ∈ rows.take k, h ∈ hz s ∧ g h) ∨ h ∈ (hz s).take j ∧ g h
section
variable {hz : List Int → List Int} {g : Int → Prop} {rows : List (List Int)} {k j : Nat} {s out : List Int} {x : Int}
theorem kV.start : kV hz g rows 0 [] := ⟨by simp, List.nodup_nil, fun h => by simp⟩
theorem kV.two (h : kV hz g rows k out) : tJ hz g rows k s 0 out := ⟨by have := h.1; omega, h.2.1, fun y => by rw [h.2.2 y]; simp⟩
theorem tJ.pass (h : tJ hz g rows k s j out) (hx : (hz s)[j]? = some x) (hm : x ∈ out ∨ ¬ g x) : tJ hz g rows k s (j + 1) out := by
 refine ⟨by have := h.1; omega, h.2.1, fun y => ?_⟩
 rw [zV hx, List.mem_append, List.mem_singleton]
 constructor
 ·intro hy
  rcases (h.2.2 y).1 hy with h1 | h1
  ·exact .inl h1
  ·exact .inr ⟨.inl h1.1, h1.2⟩
 ·rintro (h1 | ⟨h1 | h1, h2⟩)
  ·exact (h.2.2 y).2 (.inl h1)
  ·exact (h.2.2 y).2 (.inr ⟨h1, h2⟩)
  ·subst h1
   rcases hm with hm | hm
   ·exact hm
   ·exact absurd h2 hm
theorem tJ.put (h : tJ hz g rows k s j out) (hx : (hz s)[j]? = some x) (hm : x ∉ out) (hg : g x) : tJ hz g rows k s (j + 1) (out ++ [x]) := by
 refine ⟨by have := h.1; rw [List.length_append, List.length_singleton]; omega, ?_, fun y => ?_⟩
 ·rw [List.nodup_append]
  exact ⟨h.2.1, by simp, fun a ha b hb e => hm (by rw [List.mem_singleton.1 hb] at e; rw [← e]; exact ha)⟩
 ·rw [zV hx, List.mem_append, List.mem_append, List.mem_singleton, h.2.2 y]
  constructor
  ·rintro ((h1 | h1) | rfl)
   ·exact .inl h1
   ·exact .inr ⟨.inl h1.1, h1.2⟩
   ·exact .inr ⟨.inr rfl, hg⟩
  ·rintro (h1 | ⟨h1 | h1, h2⟩)
   ·exact .inl (.inl h1)
   ·exact .inl (.inr ⟨h1, h2⟩)
   ·exact .inr h1
theorem tJ.done (h : tJ hz g rows k s j out) (hj : (hz s).length = j) (h7 : j ≤ 7) (hs : rows[k]? = some s) : kV hz g rows (k + 1) out := by
 refine ⟨by have := h.1; omega, h.2.1, fun y => ?_⟩
 rw [h.2.2 y, show (hz s).take j = hz s from List.take_of_length_le (by omega), zV hs]
 constructor
 ·rintro (⟨t, ht, h1⟩ | h1)
  ·exact ⟨t, List.mem_append_left _ ht, h1⟩
  ·exact ⟨s, by simp, h1⟩
 ·rintro ⟨t, ht, h1⟩
  rcases List.mem_append.1 ht with h2 | h2
  ·exact .inl ⟨t, h2, h1⟩
  ·rw [List.mem_singleton.1 h2] at h1; exact .inr h1
end
end
section
open Go.RowKit
def jX (m : List Int) (p : Int) : List Int := m.map fun x => if x = 3 then p else x
def uk (m : List Int) (p : Int) (j : Nat) (l : List Int) : Prop := l.length = m.length ∧ ∀ d, d < m.length → l[d]? = some (if m[d]? = some 3 ∧ wm m d < j then p else m.getD d 0)
section
variable {m l : List Int} {p : Int} {j d : Nat}
theorem uk.start : uk m p 0 m := ⟨rfl, fun d hd => by rw [if_neg (by omega), List.getD_eq_getElem?_getD, List.getElem?_eq_getElem hd]; rfl⟩
theorem uk.step (h : uk m p j l) (hd : (sS m m.length)[j]? = some d) : uk m p (j + 1) (l.set d p) := by
 obtain ⟨h3, hlt, hc⟩ := sG m _ _ _ hd
 refine ⟨by simp [h.1], fun e he => ?_⟩
 rw [List.getElem?_set]
 by_cases hde : d = e
 ·subst hde
  rw [if_pos rfl, if_pos (by rw [h.1]; exact he), if_pos ⟨h3, by omega⟩]
 ·rw [if_neg hde, h.2 e he]
  congr 1
  by_cases h3e : m[e]? = some 3
  ·have : wm m e ≠ j := fun hh => hde (oK h3 h3e (by omega))
   by_cases hlt2 : wm m e < j
   ·rw [if_pos ⟨h3e, hlt2⟩, if_pos ⟨h3e, by omega⟩]
   ·rw [if_neg (fun x => hlt2 x.2), if_neg (fun x => by omega)]
  ·rw [if_neg (fun x => h3e x.1), if_neg (fun x => h3e x.1)]
theorem uk.done (h : uk m p (wm m m.length) l) : l = jX m p := by
 apply List.ext_getElem?
 intro d
 unfold jX
 rw [List.getElem?_map]
 by_cases hd : d < m.length
 ·rw [h.2 d hd, List.getD_eq_getElem?_getD, List.getElem?_eq_getElem hd]
  simp only [Option.map_some, Option.getD_some, Option.some.injEq]
  by_cases h3 : m[d] = 3
  ·rw [if_pos h3, if_pos ⟨h3, mF (by rw [List.getElem?_eq_getElem hd, h3]) hd⟩]
  ·rw [if_neg h3, if_neg (fun x => h3 x.1)]
 ·rw [List.getElem?_eq_none (by rw [h.1]; omega), List.getElem?_eq_none (by omega)]; rfl
end
end
section
open Go.RowKit
def xO : Int → List Bool → List Int
 | _, [] => []
 | k, b :: t => xo b k ++ xO (k + 1) t
theorem th (b : Bool) : ∀ (l : List Bool) (k : Int), xO k (l ++ [b]) = xO k l ++ xo b (k + l.length)
 | [], k => by simp [xO]
 | a :: t, k => by
  rw [List.cons_append, xO, th b t, xO, List.append_assoc, List.length_cons, show k + 1 + (t.length : Int) = k + ((t.length + 1 : Nat) : Int) by omega]
noncomputable def hzF (nn : Nat) (ns : List Nd) (ds : List Dv) (s : List Int) (d : Nat) (p co : Int) (ls : List Lk) (pr : List Int) (x : Dv) : List Bool :=
 if s.getD d 0 = p then [false, false, false, false, zl ls d, false, x.comp != co, true, false]
 else [false, decide (p = 2) && decide (xG nn ns ds s d x = 4), yS x.kind p (xG nn ns ds s d x) (lvE (zY nn ds s) x), yT ns ds s (zZ s d p), zl ls d, decide (p = 2) && decide (x.kind = 4) && !wl pr x.a, x.comp != co, false, false]
theorem jF (nn : Nat) (ns : List Nd) (ds : List Dv) (s : List Int) (d : Nat) (p co : Int) (ls : List Lk) (pr : List Int) (x : Dv) : (hzF nn ns ds s d p co ls pr x).length = 9 := by
 unfold hzF; split <;> rfl
theorem jm (nn : Nat) (ns : List Nd) (ds : List Dv) (s : List Int) (d : Nat) (p co : Int) (ls : List Lk) (pr : List Int) (x : Dv) : xO 0 (hzF nn ns ds s d p co ls pr x) = uc nn ns ds s d p co ls pr x := by
 have hp : ∀ h, xo false h = [] := fun _ => rfl
 have e : ∀ a b c d e f g : Bool, xO 0 [false, a, b, c, d, e, f, g, false] = hzL a b c d e f g := fun a b c d e f g => by
  simp only [xO, hp, hzL, List.nil_append, List.append_nil, List.append_assoc]; rfl
 unfold hzF uc
 split <;> exact e _ _ _ _ _ _ _
def nX (F : List Int → List Bool) (rows : List (List Int)) (k : Nat) (S : List Bool) (nb : Bool) : Prop := S.length = 9 ∧ (∀ i, i < 9 → (S[i]? = some true ↔ ∃ s ∈ rows.take k, (F s)[i]? = some true)) ∧ (nb = true ↔ ∀ s ∈ rows.take k, (F s)[7]? = some true)
def lF (F : List Int → List Bool) (rows : List (List Int)) (k : Nat) (s : List Int) (j : Nat) (S : List Bool) : Prop := S.length = 9 ∧ (∀ i, i < 9 → (S[i]? = some true ↔ (∃ s ∈ rows.take k, (F s)[i]? = some true) ∨ i < j ∧ (F s)[i]? = some true))
section
variable {F : List Int → List Bool} {rows : List (List Int)} {k j : Nat} {s : List Int} {S : List Bool} {nb a b : Bool}
theorem nX.start : nX F rows 0 (List.replicate 9 false) true := ⟨rfl, fun i hi => by rw [List.getElem?_replicate, if_pos hi]; simp, by simp⟩
theorem nX.two (h : nX F rows k S nb) : lF F rows k s 0 S := ⟨h.1, fun i hi => by rw [h.2.1 i hi]; simp⟩
theorem nX.nothing (h : nX F rows k S nb) (hs : rows[k]? = some s) (hb : (F s)[7]? = some b) : (nb && b) = true ↔ ∀ s ∈ rows.take (k + 1), (F s)[7]? = some true := by
 rw [Bool.and_eq_true, h.2.2, zV hs]
 constructor
 ·rintro ⟨h1, rfl⟩ t ht
  rcases List.mem_append.1 ht with h2 | h2
  ·exact h1 t h2
  ·rw [List.mem_singleton.1 h2]; exact hb
 ·intro h1
  refine ⟨fun t ht => h1 t (List.mem_append_left _ ht), ?_⟩
  have := h1 s (by simp)
  rw [hb] at this
  exact Option.some.inj this
theorem lF.step (h : lF F rows k s j S) (hj : j < 9) (ha : S[j]? = some a) (hb : (F s)[j]? = some b) : lF F rows k s (j + 1) (S.set j (a || b)) := by
 refine ⟨by rw [List.length_set]; exact h.1, fun i hi => ?_⟩
 by_cases hij : j = i
 ·subst hij
  rw [List.getElem?_set_self (by rw [h.1]; exact hj)]
  have h1 := h.2 j hj
  rw [ha] at h1
  rw [hb]
  constructor
  ·intro h2
   have h2 := Option.some.inj h2
   rw [Bool.or_eq_true] at h2
   rcases h2 with rfl | rfl
   ·rcases h1.1 rfl with h3 | h3
    ·exact .inl h3
    ·omega
   ·exact .inr ⟨by omega, rfl⟩
  ·rintro (h2 | ⟨_, h2⟩)
   ·have := Option.some.inj (h1.2 (.inl h2))
    rw [this]; rfl
   ·have := Option.some.inj h2
    rw [this, Bool.or_true]
 ·rw [List.getElem?_set_ne hij, h.2 i hi]
  constructor
  ·rintro (h1 | ⟨h1, h2⟩)
   ·exact .inl h1
   ·exact .inr ⟨by omega, h2⟩
  ·rintro (h1 | ⟨h1, h2⟩)
   ·exact .inl h1
   ·exact .inr ⟨by omega, h2⟩
theorem lF.done (h : lF F rows k s 9 S) (hs : rows[k]? = some s) (hn : nb = true ↔ ∀ s ∈ rows.take (k + 1), (F s)[7]? = some true) : nX F rows (k + 1) S nb := by
 refine ⟨h.1, fun i hi => ?_, hn⟩
 rw [h.2 i hi, zV hs]
 constructor
 ·rintro (⟨t, ht, h1⟩ | ⟨_, h1⟩)
  ·exact ⟨t, List.mem_append_left _ ht, h1⟩
  ·exact ⟨s, by simp, h1⟩
 ·rintro ⟨t, ht, h1⟩
  rcases List.mem_append.1 ht with h2 | h2
  ·exact .inl ⟨t, h2, h1⟩
  ·rw [List.mem_singleton.1 h2] at h1; exact .inr ⟨hi, h1⟩
end
end
section
open Go.RowKit
theorem vG (A : Option Addr) (n c B : Nat) (l : List Int) (d p : Int) (w : World) (hs : Sl w B 1 A n c (zK l)) (hB : B ≤ w.heap.size) (hn : n ≤ 1000000) : Calls Tryz.prog 76 #[.slice A n c, .int .i64 d, .int .i64 p] w (wM w (zZ l d p)) := by
 have HL := iD (hs.len (fun _ => rfl) (by decide))
 have HS := iD (hs.more hB)
 clear hs
 have hnn : n ≤ 9223372036854775807 := by omega
 by_cases h0 : 0 ≤ d
 ·by_cases h1 : d < n
  ·obtain ⟨k, rfl⟩ := Int.eq_ofNat_of_zero_le h0
   have HW : Hid (zZ l k p = l.set k p) := by unfold Hid zZ; rw [if_pos ⟨h0, by rw [HL.out]; exact h1⟩]; rfl
   have hkn : k < n := by omega
   go_enter Tryz.func76, Tryz.ntmps76
   go_upto_region 2 with (at_builtin; go_must (refine zT rfl _ (.tmp 8) rfl wA (by rfl) (World.ownsRow_nil _ w.heap.size _ _) (by rfl) HS.out (vK l) (by omega) (by omega) lR ?_; intro A1 co1 w4 hown4 hgr4 hat4; simp only [Nat.zero_add, List.nil_append] at hown4 hgr4 ⊢; have HO4 : Hid (zU w4 w.heap.size A1 n co1 l) := hown4; have HB4 : Hid (Below w.heap.size w w4) := ⟨hgr4.os, hgr4.tape, hgr4.output, hgr4.size, fun i hi => hgr4.block i hi (by simp [Value.ownBlock])⟩; clear hown4 hgr4 hat4))
   obtain ⟨g, x, rfl, hg1, hg2, hx, hcell, hfz, hst⟩ := HO4.out.at (i := k) (by omega)
   have HST := iD (hst p)
   clear hst hx
   go_wp2_with fail
   go_ret
   exact xB (by rw [HW.out, List.length_set, HL.out]) (by rw [HW.out]; exact HST.out) (HB4.out.setCell hg1 _)
  ·have q1 : decide (d < (n : Int)) = false := by simpa using h1
   have HW : Hid (zZ l d p = l) := by unfold Hid zZ; rw [if_neg (by rw [HL.out]; omega)]
   go_enter Tryz.func76, Tryz.ntmps76
   go_upto_region 2 with (at_builtin; go_must (refine zT rfl _ (.tmp 8) rfl wA (by rfl) (World.ownsRow_nil _ w.heap.size _ _) (by rfl) HS.out (vK l) (by omega) (by omega) lR ?_; intro A1 co1 w4 hown4 hgr4 hat4; simp only [Nat.zero_add, List.nil_append] at hown4 hgr4 ⊢; have HO4 : Hid (zU w4 w.heap.size A1 n co1 l) := hown4; have HB4 : Hid (Below w.heap.size w w4) := ⟨hgr4.os, hgr4.tape, hgr4.output, hgr4.size, fun i hi => hgr4.block i hi (by simp [Value.ownBlock])⟩; clear hown4 hgr4 hat4))
   go_wp2_with fail
   go_ret
   exact xB (by rw [HW.out, HL.out]) (by rw [HW.out]; exact HO4.out) HB4.out
 ·have q0 : decide (0 ≤ d) = false := by simpa using h0
  have HW : Hid (zZ l d p = l) := by unfold Hid zZ; rw [if_neg (by omega)]
  go_enter Tryz.func76, Tryz.ntmps76
  go_upto_region 2 with (at_builtin; go_must (refine zT rfl _ (.tmp 8) rfl wA (by rfl) (World.ownsRow_nil _ w.heap.size _ _) (by rfl) HS.out (vK l) (by omega) (by omega) lR ?_; intro A1 co1 w4 hown4 hgr4 hat4; simp only [Nat.zero_add, List.nil_append] at hown4 hgr4 ⊢; have HO4 : Hid (zU w4 w.heap.size A1 n co1 l) := hown4; have HB4 : Hid (Below w.heap.size w w4) := ⟨hgr4.os, hgr4.tape, hgr4.output, hgr4.size, fun i hi => hgr4.block i hi (by simp [Value.ownBlock])⟩; clear hown4 hgr4 hat4))
  go_wp2_with fail
  go_ret
  exact xB (by rw [HW.out, HL.out]) (by rw [HW.out]; exact HO4.out) HB4.out
theorem nH (An Ad Al Ap : Option Addr) (nn cn nd cd nl cl np cp : Nat) (d p co : Int) (w : World) (_hndm : nd ≤ 9223372036854775807) :
 Calls Tryz.prog 48 #[.agg #[.slice An nn cn, .slice Ad nd cd], .agg #[.int .i64 d, .int .i64 p], .agg #[.int .i64 co, .slice Al nl cl, .slice Ap np cp]] w fun e w' => e = .returned (.int .i64 (yo nd d p co)) ∧ Below w.heap.size w w' := by
 have HE : Hid (yo nd d p co = if d < 0 then 8 else if (nd : Int) ≤ d then 8 else if p ≠ 1 ∧ p ≠ 2 then 10 else if co < 0 then 5 else if 7 < co then 5 else 0) := rfl
 have HB := iD (Bx3.new w #[.slice An nn cn, .slice Ad nd cd] #[.int .i64 d, .int .i64 p] #[.int .i64 co, .slice Al nl cl, .slice Ap np cp]).bl
 by_cases h1 : d < 0
 ·go_enter Tryz.func48, Tryz.ntmps48
  go_wp2_with fail
  go_ret
  exact ⟨zE (by rw [HE.out, if_pos (by omega)]), HB.out⟩
 have q1 : decide (d < 0) = false := by simpa using h1
 by_cases h2 : (nd : Int) ≤ d
 ·go_enter Tryz.func48, Tryz.ntmps48
  go_wp2_with fail
  go_ret
  exact ⟨zE (by rw [HE.out, if_neg (by omega), if_pos (by omega)]), HB.out⟩
 have q2 : decide ((nd : Int) ≤ d) = false := by simpa using h2
 by_cases h3 : p ≠ 1 ∧ p ≠ 2
 ·have q3 : (p != 1) = true := by simpa using h3.1
  have q4 : (p != 2) = true := by simpa using h3.2
  go_enter Tryz.func48, Tryz.ntmps48
  go_wp2_with fail
  go_ret
  exact ⟨zE (by rw [HE.out, if_neg (by omega), if_neg (by omega), if_pos (by omega)]), HB.out⟩
 have HN3 : Hid (yo nd d p co = if co < 0 then 5 else if 7 < co then 5 else 0) := by unfold Hid; rw [HE.out, if_neg (by omega), if_neg (by omega), if_neg (by omega)]
 clear HE
 by_cases h4 : co < 0
 ·rcases (show p = 1 ∨ p = 2 by omega) with rfl | rfl
  ·go_enter Tryz.func48, Tryz.ntmps48
   go_wp2_with fail
   go_ret
   exact ⟨zE (by rw [HN3.out, if_pos (by omega)]), HB.out⟩
  ·go_enter Tryz.func48, Tryz.ntmps48
   go_wp2_with fail
   go_ret
   exact ⟨zE (by rw [HN3.out, if_pos (by omega)]), HB.out⟩
 have q5 : decide (co < 0) = false := by simpa using h4
 have HN4 : Hid (yo nd d p co = if 7 < co then 5 else 0) := by unfold Hid; rw [HN3.out, if_neg (by omega)]
 clear HN3
 by_cases h5 : 7 < co
 ·rcases (show p = 1 ∨ p = 2 by omega) with rfl | rfl
  ·go_enter Tryz.func48, Tryz.ntmps48
   go_wp2_with fail
   go_ret
   exact ⟨zE (by rw [HN4.out, if_pos (by omega)]), HB.out⟩
  ·go_enter Tryz.func48, Tryz.ntmps48
   go_wp2_with fail
   go_ret
   exact ⟨zE (by rw [HN4.out, if_pos (by omega)]), HB.out⟩
 have q6 : decide (7 < co) = false := by simpa using h5
 rcases (show p = 1 ∨ p = 2 by omega) with rfl | rfl
 ·go_enter Tryz.func48, Tryz.ntmps48
  go_wp2_with fail
  go_ret
  exact ⟨zE (by rw [HN4.out, if_neg (by omega)]), HB.out⟩
 ·go_enter Tryz.func48, Tryz.ntmps48
  go_wp2_with fail
  go_ret
  exact ⟨zE (by rw [HN4.out, if_neg (by omega)]), HB.out⟩
def ip (W : World) (ls : List Lk) (d : Int) (n gk : Nat) (iv : Value) (wr : World) : Prop := ∃ i : Nat, iv = .int .i64 i ∧ i ≤ n ∧ gk = n - i ∧ wr = W ∧ Hid (∀ x ∈ ls.take i, x.dev ≠ d)
theorem pz (Al Ap : Option Addr) (nl cl np cp : Nat) (ls : List Lk) (co d : Int) (w : World) (hl : Sl w w.heap.size 3 Al nl cl (ls.flatMap Lk.cells)) :
 Calls Tryz.prog 72 #[.agg #[.int .i64 co, .slice Al nl cl, .slice Ap np cp], .int .i64 d] w fun e w' => e = .returned (.bool (zl ls d)) ∧ Below w.heap.size w w' := by
 have HLN := iD (hl.len (fun _ => rfl) (by decide))
 have hnm := hl.le
 have HB : Hid (Below w.heap.size w (w.alloc (.cells #[.int .i64 co, .slice Al nl cl, .slice Ap np cp] 29))) := (Below.refl _ _).alloc lR _
 have HK := iD (Blk.new w 29 #[.int .i64 co, .slice Al nl cl, .slice Ap np cp])
 have HS := iD (hl.below HB.out lR)
 clear hl
 go_enter Tryz.func72, Tryz.ntmps72
 go_wp2_with fail
 generalize World.alloc w _ = W at *
 have k1 := HK.out.c1
 obtain ⟨gb, hgb⟩ : ∃ x, x = w.heap.size := ⟨_, rfl⟩
 rw [← hgb] at k1 ⊢
 clear HK hgb
 go_loopg [5] nl (ip W ls d nl)
 case atStart => exact ⟨0, rfl, Nat.zero_le _, rfl, rfl, fun x hx => by simp at hx⟩
 case round =>
  obtain ⟨i, rfl, hi, rfl, rfl, hno⟩ := hrel
  by_cases hlt : i < nl
  ·obtain ⟨b, off, x, rfl, hb, hx, hc⟩ := HS.out.at (fun _ => rfl) (by decide) hlt
   have HX := iD hx
   have c0 : wr.cell? ⟨b, off + i * 3, none⟩ = some (.int .i64 x.dev) := hc 0 _ rfl
   clear hx hc
   by_cases hxd : x.dev = d
   ·have q : (x.dev == d) = true := by simpa using hxd
    have HR : Hid (zl ls d = true) := by
     unfold Hid zl
     rw [List.any_eq_true]
     exact ⟨x, List.mem_of_getElem? HX.out, by simpa using hxd⟩
    clear hxd
    go_wp2_with fail
    go_ret
    exact ⟨zI HR.out.symm, HB.out⟩
   ·have q : (x.dev == d) = false := by simpa using hxd
    have HN : Hid (∀ y ∈ ls.take (i + 1), y.dev ≠ d) := fun y hy => by
     rw [zV HX.out] at hy
     rcases List.mem_append.1 hy with h | h
     ·exact hno.out y h
     ·rw [List.mem_singleton.1 h]; exact hxd
    clear hxd
    go_wp2_with fail
    go_roundg (nl - (i + 1))
    case rel => exact ⟨i + 1, by go_num, by omega, rfl, rfl, HN⟩
    case measure => omega
  ·obtain rfl : i = nl := by omega
   have hii : decide (i < i) = false := by simp
   have HR : Hid (zl ls d = false) := by
    unfold Hid zl
    rw [List.any_eq_false]
    intro x hx
    have := hno.out x (by rw [List.take_of_length_le (by rw [HLN.out]; exact Nat.le_refl _)]; exact hx)
    simpa using this
   go_wp2_with fail
   go_ret
   exact ⟨zI HR.out.symm, HB.out⟩
def iq (W : World) (l : List Bool) (gk : Nat) (ov iv : Value) (wr : World) : Prop := ∃ (i m co : Nat) (Ao : Option Addr), iv = .int .i64 i ∧ ov = .slice Ao m co ∧ i ≤ 9 ∧ gk = 9 - i ∧ m ≤ i ∧ Hid (zU wr W.heap.size Ao m co (xO 0 (l.take i))) ∧ Hid (Below W.heap.size W wr)
theorem mU (b0 b1 b2 b3 b4 b5 b6 b7 b8 : Bool) (w : World) : Calls Tryz.prog 49 #[.agg #[.bool b0, .bool b1, .bool b2, .bool b3, .bool b4, .bool b5, .bool b6, .bool b7, .bool b8]] w (wM w (xO 0 [b0, b1, b2, b3, b4, b5, b6, b7, b8])) := by
 have HB : Hid (Below w.heap.size w (w.alloc (.cells #[.bool b0, .bool b1, .bool b2, .bool b3, .bool b4, .bool b5, .bool b6, .bool b7, .bool b8] 99))) := (Below.refl _ _).alloc lR _
 have HK := iD (Blk.new w 99 #[.bool b0, .bool b1, .bool b2, .bool b3, .bool b4, .bool b5, .bool b6, .bool b7, .bool b8])
 obtain ⟨l, hl⟩ : ∃ l, l = [b0, b1, b2, b3, b4, b5, b6, b7, b8] := ⟨_, rfl⟩
 have HLL := iD hl
 have H9 : Hid (l.length = 9) := by unfold Hid; rw [hl]; rfl
 go_enter Tryz.func49, Tryz.ntmps49
 go_wp2_with fail
 rw [← hl]
 clear hl
 generalize World.alloc w _ = W at *
 have hwz := HB.out.size
 have hbw := HK.out.lt
 obtain ⟨gb, hgb⟩ : ∃ x, x = w.heap.size := ⟨_, rfl⟩
 rw [← hgb] at HK hbw ⊢
 have HGB := iD hgb
 clear hgb
 go_loopg [3, 4] 9 (iq W l)
 case atStart => exact ⟨0, 0, 0, none, rfl, rfl, Nat.zero_le _, rfl, Nat.le_refl _, World.ownsRow_nil _ _ _ _, Below.refl _ _⟩
 case round =>
  obtain ⟨i, m, co, Ao, rfl, rfl, hi, rfl, hmi, hO, hb⟩ := hrel
  by_cases hlt : i < 9
  ·obtain ⟨x, hx⟩ : ∃ x, l[i]? = some x := ⟨_, List.getElem?_eq_getElem (by rw [H9.out]; exact hlt)⟩
   have HX := iD hx
   have HK2 := iD (HK.out.below hb.out hbw)
   have c0 : wr.cell? ⟨gb, i, none⟩ = some (.bool x) := by
    have h1 : (l.map Value.bool)[i]? = some (.bool x) := by rw [List.getElem?_map, hx]; rfl
    rw [HLL.out] at h1
    rw [HK2.out.cell i, List.getElem?_toArray]
    exact h1
   have HT : Hid (xO 0 (l.take (i + 1)) = xO 0 (l.take i) ++ xo x i) := by
    unfold Hid
    rw [zV hx, th, List.length_take, H9.out, Nat.min_eq_left (by omega), Int.zero_add]
   clear hx
   rcases x with _ | _
   ·have HO2 : Hid (zU wr W.heap.size Ao m co (xO 0 (l.take (i + 1)))) := by unfold Hid; rw [HT.out]; simp only [xo, List.append_nil, Bool.false_eq_true, if_false]; exact hO.out
    go_wp2_with fail
    go_roundg (9 - (i + 1))
    case rel => exact ⟨i + 1, m, co, Ao, by go_num, rfl, by omega, rfl, by omega, HO2, hb⟩
    case measure => omega
   ·go_wp2_with (at_builtin; go_must (refine zT rfl (.tmp 12) (.tmp 14) rfl wA (by rfl) (hO.out.alloc _) (by rfl) (Sl.newest (n := 1) (by simp) (by rfl) (by decide)) (by simp [Value.oneCell']) (by omega) (by omega) (by have := hb.out.size; simp; omega) ?_; intro A2 co2 w5 hown5 hgr5 hat5; have HO5 := iD hown5; have HB5 : Hid (Below W.heap.size W w5) := (hb.out.alloc hb.out.size _).trans ⟨hgr5.os, hgr5.tape, hgr5.output, hgr5.size, fun t ht => hgr5.block t (by have := hb.out.size; simp; omega) (fun e => by have := (hO.out.lt t e.symm).1; omega)⟩; clear hown5 hgr5 hat5))
    have HO6 : Hid (zU w5 W.heap.size A2 (m + 1) co2 (xO 0 (l.take (i + 1)))) := by
     unfold Hid
     rw [HT.out]
     simp only [xo, if_true]
     unfold zU
     rw [yF]
     exact HO5.out
    go_roundg (9 - (i + 1))
    case rel => exact ⟨i + 1, m + 1, co2, A2, by go_num, rfl, by omega, rfl, by omega, HO6, HB5⟩
    case measure => omega
  ·obtain rfl : i = 9 := by omega
   have hii : decide ((9 : Int) < 9) = false := by decide
   have HO2 : Hid (zU wr W.heap.size Ao m co (xO 0 l)) := by have := hO.out; rw [List.take_of_length_le (by rw [H9.out]; exact Nat.le_refl _)] at this; exact this
   go_wp2_with fail
   go_ret
   rw [HLL.out] at HO2
   exact xB HO2.out.len (HO2.out.mono hwz) (HB.out.trans (hb.out.mono hwz))
end
end Go.Proofs.YtddddlhgaeameaaGreatDoor
