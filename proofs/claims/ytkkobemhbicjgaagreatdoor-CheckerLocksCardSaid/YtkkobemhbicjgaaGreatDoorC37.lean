import Derived.Test.YtkkobemhbicjgaaGreatDoorC36
import Derived.Test.YtkkobemhbicjgaaGreatDoorC26
import Derived.Test.YtkkobemhbicjgaaGreatDoorC30
import Derived.Test.YtkkobemhbicjgaaGreatDoorC10
import Derived.Test.YtkkobemhbicjgaaGreatDoorC35
import Derived.Test.YtkkobemhbicjgaaGreatDoorC21
set_option maxRecDepth 100000
set_option maxHeartbeats 8000000
namespace Go.Proofs.YtkkobemhbicjgaaGreatDoor
open Go.RowKit
def FaIn (C : List Int) (v : Nat) (out : List Int) : Prop := out.length ≤ v ∧ ∀ x : Int, x ∈ out ↔ ∃ k : Nat, k < v ∧ x = k ∧ C.getD k 0 = 3
theorem FaIn.start (C : List Int) : FaIn C 0 [] := ⟨Nat.le_refl _, fun x => ⟨(fun h => by cases h), (fun ⟨k, hk, _⟩ => by omega)⟩⟩
theorem FaIn.pass {C out : List Int} {v : Nat} (h : FaIn C v out) (hn : C.getD v 0 ≠ 3) : FaIn C (v + 1) out := by
 refine ⟨by have := h.1; omega, fun x => (h.2 x).trans ⟨?_, ?_⟩⟩
 ·rintro ⟨k, hk, r⟩; exact ⟨k, by omega, r⟩
 ·rintro ⟨k, hk, e, hc⟩
  rcases Nat.lt_succ_iff_lt_or_eq.1 hk with hk | rfl
  ·exact ⟨k, hk, e, hc⟩
  ·exact absurd hc hn
theorem FaIn.put {C out : List Int} {v : Nat} (h : FaIn C v out) (hc : C.getD v 0 = 3) : FaIn C (v + 1) (out ++ [(v : Int)]) := by
 refine ⟨by have := h.1; simp; omega, fun x => ?_⟩
 rw [List.mem_append, h.2 x, List.mem_singleton]
 constructor
 ·rintro (⟨k, hk, r⟩ | rfl)
  ·exact ⟨k, by omega, r⟩
  ·exact ⟨v, by omega, rfl, hc⟩
 ·rintro ⟨k, hk, e, r⟩
  rcases Nat.lt_succ_iff_lt_or_eq.1 hk with hk | rfl
  ·exact .inl ⟨k, hk, e, r⟩
  ·exact .inr e
section
variable {nn : Nat} {ns : List Nd} {ds : List Dv} {s s' m : List Int} {x : Dv} {i : Nat}
theorem col3 {v : Int} : colV ds s v = 3 ↔ HasK liveK ds s v ∧ HasK (· = 4) ds s v := by
 unfold colV
 rcases ind_cases (HasK liveK ds s v) 1 with ⟨h, e⟩ | ⟨h, e⟩ <;> rcases ind_cases (HasK (· = 4) ds s v) 2 with ⟨h2, e2⟩ | ⟨h2, e2⟩ <;> rw [e, e2] <;> simp [h, h2]
def FB (ds : List Dv) (x : Dv) (i : Nat) (s : List Int) : Prop := colV ds (withL s i 2) x.a = 3 ∨ joinsB x.kind = true ∧ colV ds (withL s i 2) x.b = 3
theorem faultB_iff (he : EndsOk nn ds) (ha : AOk nn ds) (hx : x ∈ ds) : faultB x.kind x.a x.b (colsOf nn ds s) = true ↔ colV ds s x.a = 3 ∨ joinsB x.kind = true ∧ colV ds s x.b = 3 := by
 have hC := colsOf_are nn ds s
 have h1 := cols_get hC (ha x hx).1 (ha x hx).2
 unfold faultB
 rw [Bool.or_eq_true, Bool.and_eq_true, beq_iff_eq, beq_iff_eq, h1]
 constructor
 ·rintro (h | ⟨h, h2⟩)
  ·exact .inl h
  ·exact .inr ⟨h, by rw [cols_get hC (he x hx h).2.1 (he x hx h).2.2] at h2; exact h2⟩
 ·rintro (h | ⟨h, h2⟩)
  ·exact .inl h
  ·exact .inr ⟨h, by rw [cols_get hC (he x hx h).2.1 (he x hx h).2.2]; exact h2⟩
theorem duty4 (he : EndsOk nn ds) (ha : AOk nn ds) (hx : x ∈ ds) : dutyAt nn ns ds s i x = 4 ↔ FB ds x i s := by
 unfold dutyAt dutyV FB
 rw [← faultB_iff he ha hx]
 constructor
 ·intro h
  split at h
  ·assumption
  ·split at h
   ·cases h
   ·split at h
    ·cases h
    ·split at h <;> cases h
 ·intro h; rw [if_pos h]
theorem fill_in (m : List Int) : fillL m 2 ∈ allOf m := by
 refine (mem_allN m m.length _).2 ⟨fillL_len m 2, fun d hd => ?_⟩
 unfold fillL
 rw [List.getElem?_map, List.getElem?_eq_getElem hd]
 simp only [Option.map_some]
 constructor
 ·intro h; injection h with h; rw [if_pos h]; exact .inr rfl
 ·intro h
  rw [if_neg (fun e => h (by rw [e])), List.getD_eq_getElem?_getD, List.getElem?_eq_getElem hd]; rfl
end
end Go.Proofs.YtkkobemhbicjgaaGreatDoor
namespace Go.Proofs.YtkkobemhbicjgaaGreatDoor
open Go.RowKit
section
variable {ns : List Nd} {ds : List Dv} {m s : List Int} {d p co h : Int} {ls : List Lk} {pr pr2 : List Int} {x : Dv}
theorem agr_iff : s ∈ allOf m ↔ AgrN m m.length s := mem_allN m m.length s
theorem agr_at (hs : s ∈ allOf m) {i : Nat} (hi : i < m.length) : m[i]? = some 3 ∧ (s[i]? = some 1 ∨ s[i]? = some 2) ∨ m[i]? ≠ some 3 ∧ s[i]? = m[i]? := by
 obtain ⟨h1, h2⟩ := (agr_iff.1 hs).2 i hi
 by_cases h3 : m[i]? = some 3
 ·exact .inl ⟨h3, h1 h3⟩
 ·refine .inr ⟨h3, ?_⟩
  rw [h2 h3, List.getD_eq_getElem?_getD, List.getElem?_eq_getElem hi]; rfl
end
section
variable {ns : List Nd} {ds : List Dv} {co : Int} {t u : Sm} {x : Sp}
end
end Go.Proofs.YtkkobemhbicjgaaGreatDoor
namespace Go.Proofs.YtkkobemhbicjgaaGreatDoor
open Go.RowKit
section
variable {ns : List Nd} {ds : List Dv} {co : Int} {t t2 u : Sm} {x : Sp} {m s : List Int}
theorem chTo_e (hd : ds.length ≤ 8) (hc : ChOk ns ds t) : (chTo ns ds co t x).e = 0 := by
 unfold chTo
 split
 ·exact cErr_ok hc.s hd
 split
 ·split <;> rfl
 split
 ·split <;> rfl
 split
 ·rfl
 split
 ·rfl
 split <;> rfl
theorem chRun_e (hd : ds.length ≤ 8) : ∀ (xs : List Sp) (i : Nat) (out : List Fn) (t : Sm), ChOk ns ds t → (∀ x ∈ xs, spErr ns.length ds.length x = 0) → (chRun ns ds co i out t xs).e = 0
 | [], _, _, _, _, _ => rfl
 | x :: r, i, out, t, hc, hx => by
  rw [chRun, if_neg (by simp [chTo_e hd hc])]
  split
  ·rfl
  ·exact chRun_e hd r _ _ _ (chTo_ok hc (hx x (by simp))) fun y hy => hx y (List.mem_cons_of_mem _ hy)
end
end Go.Proofs.YtkkobemhbicjgaaGreatDoor
namespace Go.Proofs.YtkkobemhbicjgaaGreatDoor
open Go.RowKit
section
variable {ns : List Nd} {ds : List Dv} {m s : List Int} {i : Nat} {x : Dv}
theorem mask_of_state (h : stateErr ns ds s = 0) : maskErr ns ds s = 0 := by
 unfold stateErr at h
 unfold maskErr
 split at h
 ·next h1 => exact absurd h h1
 next h1 =>
 rw [if_neg h1]
 split at h
 ·cases h
 next h2 =>
 rw [if_neg h2]
 split at h
 ·next h3 =>
  rw [if_pos]
  intro p hp
  have := h3 p hp
  unfold posB at this
  unfold maskB
  simp only [Bool.or_eq_true, decide_eq_true_eq, Bool.and_eq_true] at this ⊢
  omega
 ·cases h
theorem state_at (h : stateErr ns ds s = 0) (hi : i < s.length) : s[i]? = some 1 ∨ s[i]? = some 2 := by
 have hm := mask_at (mask_of_state h) hi
 rcases hm with h1 | h1 | h1
 ·exact .inl h1
 ·exact .inr h1
 ·exfalso
  unfold stateErr at h
  split at h
  ·next h2 => exact absurd h h2
  split at h
  ·cases h
  split at h
  ·next h3 =>
   have := h3 3 (List.mem_of_getElem? h1)
   revert this; decide
  ·cases h
def lkOf (i : Nat) (y : Int) : Lk := ⟨i, y, 7⟩
theorem lk_add (hc : checkN ns ds = 0) (hx : ds[i]? = some x) (hk : x.kind ≠ 5) {y : Int} (hy : y = 1 ∨ y = 2) (no : Int) : lkdTo ns ds [] ⟨3, i, no, y, 7⟩ = ([lkOf i y], true) := by
 have hi := (List.getElem?_eq_some_iff.1 hx).1
 have h0 : locksErr ns ds [] = 0 := sm_locks hc ⟨by simp, by simp, List.Pairwise.nil⟩
 have h1 : lkErr ds ⟨i, y, 7⟩ = 0 := by
  unfold lkErr
  dsimp only
  rw [if_neg (by omega), if_neg (by omega), if_neg (by rw [kindOf_at hx]; exact hk), if_neg (by omega), if_neg (by omega), if_neg (by omega)]
 unfold lkdTo
 rw [if_pos rfl]
 dsimp only
 rw [if_neg]
 ·rfl
 unfold addErr
 rw [if_neg (by simp [h0]), if_neg (by simp [h1]), if_neg (by simp [usdL]), if_neg (by simp [othL]), if_neg (by simp)]
 simp
theorem lock_gone (hc : checkN ns ds = 0) (hx : ds[i]? = some x) (hk : x.kind ≠ 5) {y : Int} (hs : s[i]? = some y) (hy : y = 1 ∨ y = 2) (co : Int) :
 chRun ns ds co 0 [] ⟨s, [], []⟩ [⟨3, i, 0, y, 7⟩, ⟨4, i, 0, 0, 7⟩] = ⟨0, [], ⟨s, [], []⟩⟩ := by
 have h1 : chTo ns ds co ⟨s, [], []⟩ ⟨3, i, 0, y, 7⟩ = ⟨0, [], ⟨s, [lkOf i y], []⟩, false⟩ := by
  rw [chTo36 (.inl rfl)]
  dsimp only
  rw [lk_add hc hx hk hy 0, Int.toNat_natCast, getD_at hs, set_id hs]
  simp [misB, unsL]
 have h2 : chTo ns ds co ⟨s, [lkOf i y], []⟩ ⟨4, i, 0, 0, 7⟩ = ⟨0, [], ⟨s, [], []⟩, false⟩ := by
  rw [chTo4 rfl]
  have : lkdTo ns ds [lkOf i y] ⟨4, i, 0, 0, 7⟩ = ([], true) := by
   unfold lkdTo
   rw [if_neg (by simp)]
   simp [idxL, lkOf]
  dsimp only
  rw [this]; rfl
 rw [chRun, h1, if_neg (by simp), if_neg (by simp), chRun, h2, if_neg (by simp), if_neg (by simp), chRun]
 simp [fnsOf]
theorem lock_held (hd : ds.length ≤ 8) (hm : maskErr ns ds s = 0) (hx : ds[i]? = some x) (hk : x.kind ≠ 5) {y : Int} (hs : s[i]? = some y) (hy : y = 1 ∨ y = 2) (co : Int) (r : List Sp) :
 ∃ H : List Int, 4 ∈ H ∧ chRun ns ds co 0 [] ⟨s, [], []⟩ (⟨3, i, 0, y, 7⟩ :: ⟨3 - y, i, 0, 0, 0⟩ :: ⟨3, i, 0, y, 7⟩ :: r) = ⟨0, fnsOf 1 H ++ [⟨2, 8⟩], ⟨s.set i (3 - y), [lkOf i y], []⟩⟩ := by
 have hc := (maskErr_net hm).1
 have hi := (List.getElem?_eq_some_iff.1 hs).1
 have h1 : chTo ns ds co ⟨s, [], []⟩ ⟨3, i, 0, y, 7⟩ = ⟨0, [], ⟨s, [lkOf i y], []⟩, false⟩ := by
  rw [chTo36 (.inl rfl)]
  dsimp only
  rw [lk_add hc hx hk hy 0, Int.toNat_natCast, getD_at hs, set_id hs]
  simp [misB, unsL]
 have h2 : chTo ns ds co ⟨s, [lkOf i y], []⟩ ⟨3 - y, i, 0, 0, 0⟩ = ⟨0, mayF ns ds s i (3 - y) co [lkOf i y] [], ⟨s.set i (3 - y), [lkOf i y], []⟩, false⟩ := by
  rw [chToO (by dsimp only; omega)]
  dsimp only
  rw [cErr_ok hm hd, Int.toNat_natCast]
  simp
 have h3 : chTo ns ds co ⟨s.set i (3 - y), [lkOf i y], []⟩ ⟨3, i, 0, y, 7⟩ = ⟨0, [8], ⟨s.set i (3 - y), [lkOf i y], []⟩, true⟩ := by
  rw [chTo36 (.inl rfl)]
  dsimp only
  rw [Int.toNat_natCast, set_at hi, if_pos]
  unfold misB
  simp only [Bool.and_eq_true, Bool.not_eq_true', decide_eq_false_iff_not]
  omega
 refine ⟨mayF ns ds s i (3 - y) co [lkOf i y] [], ?_, ?_⟩
 ·refine (mayF_mem (d := (i : Int)) (by simpa using hx) 4).2 ⟨fillL s 2, fill_in s, ?_, .inl (by decide)⟩
  have hl : lockB [lkOf i y] (i : Int).toNat = true := by simp [lockB, lkOf]
  unfold hzAt
  split
  ·rw [hzL_mem]; exact .inr (.inr (.inr (.inl ⟨rfl, hl⟩)))
  ·rw [hzL_mem]; exact .inr (.inr (.inr (.inl ⟨rfl, hl⟩)))
 ·rw [chRun, h1, if_neg (by simp), if_neg (by simp), chRun, h2, if_neg (by simp), if_neg (by simp), chRun, h3, if_neg (by simp), if_pos rfl]
  simp [fnsOf]
end
end Go.Proofs.YtkkobemhbicjgaaGreatDoor
namespace Go.Proofs.YtkkobemhbicjgaaGreatDoor
open Go.RowKit
def nsW : List Nd := [⟨⟨#[65]⟩, 0, 0⟩]
def dsW : List Dv := [⟨⟨#[69]⟩, 4, 0, -1, 0⟩]
def xsW : List Sp := [⟨2, 0, 0, 0, 0⟩, ⟨3, 0, 0, 2, 4⟩]
theorem namesW : (∀ x ∈ nsW, x.name.size ≤ 9223372036854775807) ∧ (∀ x ∈ dsW, x.name.size ≤ 9223372036854775807) := by
 constructor <;> intro x hx <;> simp [nsW, dsW] at hx <;> rcases hx with rfl | rfl <;> decide
theorem chW : chErr nsW dsW [1] 0 [] [] ⟨#[80]⟩ xsW = 0 := by decide
theorem noLiveW (s : List Int) (v : Int) : ¬ HasK liveK dsW s v := by
 rintro ⟨k, x, hx, -, hk, -⟩
 rcases k with _ | k
 ·simp [dsW] at hx; subst hx; rcases hk with hk | hk <;> cases hk
 ·simp [dsW] at hx
theorem mayW : mayF nsW dsW [1] 0 2 0 [] [] = [5] := by
 have hx : dsW[(0 : Int).toNat]? = some ⟨⟨#[69]⟩, 4, 0, -1, 0⟩ := rfl
 have hnet := NetOk.of (ns := nsW) (ds := dsW) (by decide)
 refine (mayF_is hx ⟨by decide, by simp, fun h => ?_⟩).symm
 rw [List.mem_singleton]
 have h1 : ∀ s ∈ allOf ([1] : List Int), s[0]? = some 1 := fun s hs => by
  rcases agr_at hs (i := 0) (by decide) with ⟨h, -⟩ | ⟨-, h⟩
  ·cases h
  ·exact h
 constructor
 ·rintro rfl
  refine ⟨fillL [1] 2, fill_in _, ?_, .inl (by decide)⟩
  unfold hzAt
  rw [if_neg (by decide), hzL_mem]
  exact .inr (.inr (.inr (.inr (.inl ⟨rfl, by simp [hasB]⟩))))
 ·rintro ⟨s, hs, hz, -⟩
  have hs1 := h1 s hs
  unfold hzAt at hz
  rw [if_neg (by show ¬ s.getD 0 0 = 2; rw [getD_at hs1]; decide), hzL_mem] at hz
  rcases hz with ⟨-, hz⟩ | ⟨-, hz⟩ | ⟨-, hz⟩ | ⟨-, hz⟩ | ⟨h, -⟩ | ⟨-, hz⟩ | ⟨-, hz⟩
  ·simp only [Bool.and_eq_true, decide_eq_true_eq] at hz
   have := (duty4 hnet.e hnet.a (by simp [dsW])).1 hz.2
   rcases this with h | ⟨h, -⟩
   ·exact absurd (col3.1 h).1 (noLiveW _ _)
   ·cases h
  ·simp [badB] at hz
  ·unfold lostB at hz
   simp only [decide_eq_true_eq] at hz
   obtain ⟨k, y, -, -, h, -⟩ := hz
   exact absurd h.1 (noLiveW _ _)
  ·simp [lockB] at hz
  ·exact h
  ·simp at hz
  ·cases hz
theorem runW : chRun nsW dsW 0 0 [] ⟨[1], [], []⟩ xsW = ⟨0, [⟨0, 5⟩], ⟨[2], [⟨0, 2, 4⟩], []⟩⟩ := by
 have e1 : chTo nsW dsW 0 ⟨[1], [], []⟩ ⟨2, 0, 0, 0, 0⟩ = ⟨0, [5], ⟨[2], [], []⟩, false⟩ := by
  rw [chToO (.inr rfl)]
  dsimp only
  rw [mayW]; rfl
 have e2 : chTo nsW dsW 0 ⟨[2], [], []⟩ ⟨3, 0, 0, 2, 4⟩ = ⟨0, [], ⟨[2], [⟨0, 2, 4⟩], []⟩, false⟩ := by
  rw [chTo36 (.inl rfl)]
  have e3 : lkdTo nsW dsW [] ⟨3, 0, 0, 2, 4⟩ = ([⟨0, 2, 4⟩], true) := by
   unfold lkdTo
   rw [if_pos rfl, if_neg (by decide)]; rfl
  dsimp only
  rw [e3]; rfl
 unfold xsW
 rw [chRun, e1, if_neg (by decide), if_neg (by decide), chRun, e2, if_neg (by decide), if_neg (by decide), chRun]; rfl
theorem Blk.sl {w : World} {g n size : Nat} {T : TypeId} {cs : Array Value} {xs : List Value} (h : Blk w g T cs) (hc : cs.toList = xs) (hs : cs.size = n * size) (hn : n ≤ 100) : Sl w w.heap.size size (some ⟨g, 0, none⟩) n n xs := by
 subst hc
 refine ⟨by simpa using hs, Nat.le_refl _, by omega, (fun e => by cases e), fun _ => ⟨g, 0, rfl, h.lt, fun j u hu => ?_⟩⟩
 rw [Nat.zero_add, h.cell]; simpa using hu
def nW : Array Value := #[.string ⟨#[65]⟩, .int .i64 0, .int .i64 0]
def dW : Array Value := #[.string ⟨#[69]⟩, .int .i64 4, .int .i64 0, .int .i64 (-1), .int .i64 0]
def xW : Array Value := #[.int .i64 2, .int .i64 0, .int .i64 0, .int .i64 0, .int .i64 0, .int .i64 3, .int .i64 0, .int .i64 0, .int .i64 2, .int .i64 4]
theorem awake_any (w : World) (hl : Laid w) : Calls Tryz.prog 11 #[] w fun e w' => e = .returned (.bool true) ∧ Below w.heap.size w w' := by
 have HB : Hid (Bxs w [(85, nW), (57, dW), (30, #[.slice (some ⟨w.heap.size, 0, none⟩) 1 1, .slice (some ⟨w.heap.size + 1, 0, none⟩) 1 1]), (43, xW), (41, #[.string ⟨#[80]⟩, .slice (some ⟨w.heap.size + 1 + 1 + 1, 0, none⟩) 2 2])] _) := (Bxs.new4 w (85, nW) (57, dW) (30, #[.slice (some ⟨w.heap.size, 0, none⟩) 1 1, .slice (some ⟨w.heap.size + 1, 0, none⟩) 1 1]) (43, xW)).add (by simp) 41 #[.string ⟨#[80]⟩, .slice (some ⟨w.heap.size + 1 + 1 + 1, 0, none⟩) 2 2]
 have HLA := Lib.hid hl
 clear hl
 dsimp only [nW, dW, xW] at HB
 go_enter Tryz.func11, Tryz.ntmps11
 go_upto_region 3 with (fail)
 generalize World.alloc (World.alloc (World.alloc (World.alloc (World.alloc w _) _) _) _) _ = W at *
 rw [show w.heap.size + 1 + 1 = w.heap.size + 2 from rfl, show w.heap.size + 2 + 1 = w.heap.size + 3 from rfl, show w.heap.size + 3 + 1 = w.heap.size + 4 from rfl]
 have k0 := HB.out.b2.c0
 have k1 := HB.out.b2.c1
 have p0 := HB.out.b4.c0
 have p1 := HB.out.b4.c1
 have hlt := HB.out.b4.lt
 go_wp2_with fail
 clear k0 k1 p0 p1 hlt
 have HB1 := Lib.hid (HB.out.later ((Below.refl _ W).alloc (Nat.le_refl _) (.cells #[.int .i64 1] 3)))
 have HS1 : Hid (Sl (W.alloc (.cells #[.int .i64 1] 3)) (W.alloc (.cells #[.int .i64 1] 3)).heap.size 1 (some ⟨W.heap.size, 0, none⟩) 1 1 (intsV [1])) := (Sl.newest (n := 1) (size := 1) rfl rfl (by decide)).more (by simp)
 clear HB
 generalize World.alloc W _ = w1 at *
 have HM1 : Hid (SmMem w1 (some ⟨w.heap.size, 0, none⟩) (some ⟨w.heap.size + 1, 0, none⟩) (some ⟨W.heap.size, 0, none⟩) none none (some ⟨w.heap.size + 3, 0, none⟩) 1 1 1 1 1 1 0 0 0 0 2 2 nsW dsW [1] [] [] ⟨#[80]⟩ xsW) := ⟨⟨HB1.out.b0.sl rfl rfl (by decide), HB1.out.b1.sl rfl rfl (by decide), HS1.out, Sl.nil _ _ _, Sl.nil _ _ _, HLA.out.below HB1.out.l (Nat.le_refl _), namesW.1, namesW.2⟩, HB1.out.b3.sl rfl rfl (by decide), by decide⟩
 refine (chRun_any _ _ _ _ _ _ 1 1 1 1 1 1 0 0 0 0 2 2 nsW dsW [1] [] [] 0 ⟨#[80]⟩ xsW w1 HM1.out).mono ?_
 rintro e w2 ⟨⟨h1, -⟩ | ⟨-, h1, -⟩ | ⟨-, -, A1, A2, A3, A4, n1, c1, n2, c2, n3, c3, n4, c4, rfl, hR⟩, hb2⟩
 ·exact absurd chW h1
 ·rw [runW] at h1; exact absurd rfl h1
 rw [runW] at hR
 obtain rfl : 1 = n1 := hR.out.o.len (f := Fn.cells) (fun _ => rfl) (by decide)
 obtain rfl : 1 = n3 := hR.out.l.len (f := Lk.cells) (fun _ => rfl) (by decide)
 have HB2 : Hid (Below w.heap.size w w2) := HB1.out.l.trans (hb2.out.mono HB1.out.l.size)
 have HR2 := Lib.hid hR.out
 clear hR hb2 HB1 HS1 HM1
 go_upto_region 4 with (fail)
 have HG5 := Lib.hid (Blk.new w2 47 #[.slice A1 1 c1, .slice A2 n2 c2, .int .i64 0, .slice A3 1 c3, .slice A4 n4 c4])
 have HB3 : Hid (Below w2.heap.size w2 (w2.alloc (.cells #[.slice A1 1 c1, .slice A2 n2 c2, .int .i64 0, .slice A3 1 c3, .slice A4 n4 c4] 47))) := (Below.refl _ _).alloc (Nat.le_refl _) _
 have HF3 := Lib.hid ((HR2.out.o.below HB3.out (Nat.le_refl _)).more HB3.out.size)
 have HM3 := Lib.hid ((HR2.out.s.below HB3.out (Nat.le_refl _)).more HB3.out.size)
 replace HB3 := Lib.hid (HB2.out.trans (HB3.out.mono HB2.out.size))
 clear HB2 HR2
 dsimp only at HF3 HM3
 generalize World.alloc w2 _ = w3 at *
 obtain ⟨rb, hrb⟩ : ∃ x, x = w2.heap.size := ⟨_, rfl⟩
 rw [← hrb] at HG5 ⊢
 clear hrb
 have r0 := HG5.out.c0
 go_wp2_with fail
 clear r0
 have HBL : Hid (Below w3.heap.size w3 (w3.alloc (.cells #[.int .i64 0, .int .i64 5] 53))) := (Below.refl _ _).alloc (Nat.le_refl _) _
 have HN : Hid (Sl (w3.alloc (.cells #[.int .i64 0, .int .i64 5] 53)) (w3.alloc (.cells #[.int .i64 0, .int .i64 5] 53)).heap.size 2 (some ⟨w3.heap.size, 0, none⟩) 1 1 (([⟨0, 5⟩] : List Fn).flatMap Fn.cells)) := (Sl.newest (n := 1) (size := 2) rfl rfl (by decide)).more (by simp)
 have HF4 := Lib.hid ((HF3.out.below HBL.out (Nat.le_refl _)).more HBL.out.size)
 have HM4 := Lib.hid ((HM3.out.below HBL.out (Nat.le_refl _)).more HBL.out.size)
 have HG4 := Lib.hid (HG5.out.below HBL.out HG5.out.lt)
 have HB4 := Lib.hid (HB3.out.trans (HBL.out.mono HB3.out.size))
 clear HF3 HM3 HG5 HB3 HBL
 generalize World.alloc w3 _ = w4 at *
 refine (samef_any A1 _ 1 c1 1 1 w4.heap.size w4.heap.size _ _ w4 HF4.out HN.out (Nat.le_refl _) (Nat.le_refl _)).mono ?_
 rintro e w5 ⟨rfl, hb5⟩
 rw [show decide (([⟨0, 5⟩] : List Fn) = [⟨0, 5⟩]) = true from rfl]
 have HF5 := Lib.hid ((HF4.out.below hb5 (Nat.le_refl _)).more hb5.size)
 have HM5 := Lib.hid ((HM4.out.below hb5 (Nat.le_refl _)).more hb5.size)
 have HG6 := Lib.hid (HG4.out.below hb5 HG4.out.lt)
 have HB5 := Lib.hid (HB4.out.trans (hb5.mono HB4.out.size))
 clear hb5 HF4 HM4 HG4 HB4 HN
 have r1 := HG6.out.c1
 have r3 := HG6.out.c3
 have hlt := HG6.out.lt
 go_wp2_with fail
 clear r1 r3 hlt
 have HBL : Hid (Below w5.heap.size w5 (w5.alloc (.cells #[.int .i64 2] 3))) := (Below.refl _ _).alloc (Nat.le_refl _) _
 have HN : Hid (Sl (w5.alloc (.cells #[.int .i64 2] 3)) (w5.alloc (.cells #[.int .i64 2] 3)).heap.size 1 (some ⟨w5.heap.size, 0, none⟩) 1 1 (intsV [2])) := (Sl.newest (n := 1) (size := 1) rfl rfl (by decide)).more (by simp)
 have HF6 := Lib.hid ((HF5.out.below HBL.out (Nat.le_refl _)).more HBL.out.size)
 have HM6 := Lib.hid ((HM5.out.below HBL.out (Nat.le_refl _)).more HBL.out.size)
 have HG7 := Lib.hid (HG6.out.below HBL.out HG6.out.lt)
 have HB6 := Lib.hid (HB5.out.trans (HBL.out.mono HB5.out.size))
 clear HF5 HM5 HG6 HB5 HBL
 generalize World.alloc w5 _ = w6 at *
 refine (ints_any A2 _ n2 c2 1 1 w6.heap.size w6.heap.size [2] [2] w6 HM6.out HN.out (Nat.le_refl _) (Nat.le_refl _)).mono ?_
 rintro e w7 ⟨rfl, hb7⟩
 rw [show decide (([2] : List Int) = [2]) = true from rfl]
 have HF7 := Lib.hid ((HF6.out.below hb7 (Nat.le_refl _)).more hb7.size)
 have HG8 := Lib.hid (HG7.out.below hb7 HG7.out.lt)
 have HB7 := Lib.hid (HB6.out.trans (hb7.mono HB6.out.size))
 clear hb7 HF6 HM6 HG7 HB6 HN
 have r0 := HG8.out.c0
 have r1 := HG8.out.c1
 have r2 := HG8.out.c2
 have r3 := HG8.out.c3
 have r4 := HG8.out.c4
 have hlt := HG8.out.lt
 go_wp2_with fail
 clear r0 r1 r2 r3 r4 hlt
 have HBL : Hid (Below w7.heap.size w7 (w7.alloc (.cells #[.int .i64 5] 3))) := (Below.refl _ _).alloc (Nat.le_refl _) _
 have HN : Hid (Sl (w7.alloc (.cells #[.int .i64 5] 3)) (w7.alloc (.cells #[.int .i64 5] 3)).heap.size 1 (some ⟨w7.heap.size, 0, none⟩) 1 1 (intsV [5])) := (Sl.newest (n := 1) (size := 1) rfl rfl (by decide)).more (by simp)
 have HF8 := Lib.hid ((HF7.out.below HBL.out (Nat.le_refl _)).more HBL.out.size)
 have HB8 := Lib.hid (HB7.out.trans (HBL.out.mono HB7.out.size))
 clear HF7 HG8 HB7 HBL
 generalize World.alloc w7 _ = w8 at *
 refine (clean_any A1 A2 A3 A4 _ 1 c1 n2 c2 1 c3 n4 c4 1 1 0 [⟨0, 5⟩] [5] w8 HF8.out HN.out).mono ?_
 rintro e w9 ⟨rfl, hb9⟩
 rw [show clnB [⟨0, 5⟩] [5] = true from by decide]
 go_wp2_with fail
 go_ret
 exact ⟨rfl, HB8.out.trans (hb9.mono HB8.out.size)⟩
end Go.Proofs.YtkkobemhbicjgaaGreatDoor
