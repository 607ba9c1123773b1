import Derived.Test.YtkkobemhbicjgaaGreatDoorD36
import Derived.Test.YtkkobemhbicjgaaGreatDoorD26
import Derived.Test.YtkkobemhbicjgaaGreatDoorD30
import Derived.Test.YtkkobemhbicjgaaGreatDoorD10
import Derived.Test.YtkkobemhbicjgaaGreatDoorD35
import Derived.Test.YtkkobemhbicjgaaGreatDoorD21
set_option maxRecDepth 100000
set_option maxHeartbeats 8000000
namespace Go.Proofs.YtkkobemhbicjgaaGreatDoor
open Go.RowKit
def FaIn (C : List Int) (v : Nat) (out : List Int) : Prop := out.length ≤ v ∧ ∀ x : Int, x ∈ out ↔ ∃ k : Nat, k < v ∧ x = k ∧ C.getD k 0 = 3
theorem FaIn.start (C : List Int) : FaIn C 0 [] := ⟨Nat.le_refl _, fun x => ⟨(fun h => by cases h), (fun ⟨k, hk, _⟩ => by omega)⟩⟩
theorem FaIn.pass {C out : List Int} {v : Nat} (h : FaIn C v out) (hn : C.getD v 0 ≠ 3) : FaIn C (v + 1) out := by
 refine ⟨by have := h.1; omega, fun x => (h.2 x).trans ⟨?_, ?_⟩⟩
 ·rintro ⟨k, hk, r⟩; exact ⟨k, by omega, r⟩
 ·rintro ⟨k, hk, e, hc⟩
  rcases Nat.lt_succ_iff_lt_or_eq.1 hk with hk | rfl
  ·exact ⟨k, hk, e, hc⟩
  ·exact absurd hc hn
theorem FaIn.put {C out : List Int} {v : Nat} (h : FaIn C v out) (hc : C.getD v 0 = 3) : FaIn C (v + 1) (out ++ [(v : Int)]) := by
 refine ⟨by have := h.1; simp; omega, fun x => ?_⟩
 rw [List.mem_append, h.2 x, List.mem_singleton]
 constructor
 ·rintro (⟨k, hk, r⟩ | rfl)
  ·exact ⟨k, by omega, r⟩
  ·exact ⟨v, by omega, rfl, hc⟩
 ·rintro ⟨k, hk, e, r⟩
  rcases Nat.lt_succ_iff_lt_or_eq.1 hk with hk | rfl
  ·exact .inl ⟨k, hk, e, r⟩
  ·exact .inr e
section
variable {nn : Nat} {ns : List Nd} {ds : List Dv} {s s' m : List Int} {x : Dv} {i : Nat}
theorem conn_mono (h : ∀ k : Nat, s[k]? = some 2 → s'[k]? = some 2) {u v : Int} (hc : Conn ds s u v) : Conn ds s' u v := by
 unfold Conn at *
 induction hc with
 | base h1 => exact .base h1
 | step _ h2 h3 h4 h5 ih =>
  refine .step ih h2 h3 ?_ h5
  unfold shutB at *
  simp only [beq_iff_eq] at *
  rename_i k _ _
  have h6 : s[k]? = some 2 := by
   rcases hq : s[k]? with _ | y
   ·rw [List.getD_eq_getElem?_getD, hq] at h4; cases h4
   ·rw [List.getD_eq_getElem?_getD, hq] at h4; simp at h4; rw [h4]
  rw [List.getD_eq_getElem?_getD, h k h6]; rfl
theorem hasK_mono {K : Int → Prop} (h : ∀ k : Nat, s[k]? = some 2 → s'[k]? = some 2) {v : Int} (hk : HasK K ds s v) : HasK K ds s' v := by
 obtain ⟨k, y, h1, h2, h3, h4⟩ := hk
 exact ⟨k, y, h1, h k h2, h3, conn_mono h h4⟩
theorem col3 {v : Int} : colV ds s v = 3 ↔ HasK liveK ds s v ∧ HasK (· = 4) ds s v := by
 unfold colV
 rcases ind_cases (HasK liveK ds s v) 1 with ⟨h, e⟩ | ⟨h, e⟩ <;> rcases ind_cases (HasK (· = 4) ds s v) 2 with ⟨h2, e2⟩ | ⟨h2, e2⟩ <;> rw [e, e2] <;> simp [h, h2]
def FB (ds : List Dv) (x : Dv) (i : Nat) (s : List Int) : Prop := colV ds (withL s i 2) x.a = 3 ∨ joinsB x.kind = true ∧ colV ds (withL s i 2) x.b = 3
theorem faultB_iff (he : EndsOk nn ds) (ha : AOk nn ds) (hx : x ∈ ds) : faultB x.kind x.a x.b (colsOf nn ds s) = true ↔ colV ds s x.a = 3 ∨ joinsB x.kind = true ∧ colV ds s x.b = 3 := by
 have hC := colsOf_are nn ds s
 have h1 := cols_get hC (ha x hx).1 (ha x hx).2
 unfold faultB
 rw [Bool.or_eq_true, Bool.and_eq_true, beq_iff_eq, beq_iff_eq, h1]
 constructor
 ·rintro (h | ⟨h, h2⟩)
  ·exact .inl h
  ·exact .inr ⟨h, by rw [cols_get hC (he x hx h).2.1 (he x hx h).2.2] at h2; exact h2⟩
 ·rintro (h | ⟨h, h2⟩)
  ·exact .inl h
  ·exact .inr ⟨h, by rw [cols_get hC (he x hx h).2.1 (he x hx h).2.2]; exact h2⟩
theorem duty4 (he : EndsOk nn ds) (ha : AOk nn ds) (hx : x ∈ ds) : dutyAt nn ns ds s i x = 4 ↔ FB ds x i s := by
 unfold dutyAt dutyV FB
 rw [← faultB_iff he ha hx]
 constructor
 ·intro h
  split at h
  ·assumption
  ·split at h
   ·cases h
   ·split at h
    ·cases h
    ·split at h <;> cases h
 ·intro h; rw [if_pos h]
theorem withL_is (hi : i < s.length) (p : Int) : withL s i p = s.set i p := by
 unfold withL
 rw [if_pos ⟨by omega, by omega⟩]; simp
theorem fill_in (m : List Int) : fillL m 2 ∈ allOf m := by
 refine (mem_allN m m.length _).2 ⟨fillL_len m 2, fun d hd => ?_⟩
 unfold fillL
 rw [List.getElem?_map, List.getElem?_eq_getElem hd]
 simp only [Option.map_some]
 constructor
 ·intro h; injection h with h; rw [if_pos h]; exact .inr rfl
 ·intro h
  rw [if_neg (fun e => h (by rw [e])), List.getD_eq_getElem?_getD, List.getElem?_eq_getElem hd]; rfl
end
end Go.Proofs.YtkkobemhbicjgaaGreatDoor
namespace Go.Proofs.YtkkobemhbicjgaaGreatDoor
open Go.RowKit
section
variable {ns : List Nd} {ds : List Dv} {m s : List Int} {d p co h : Int} {ls : List Lk} {pr pr2 : List Int} {x : Dv}
theorem agr_iff : s ∈ allOf m ↔ AgrN m m.length s := mem_allN m m.length s
theorem agr_len (hs : s ∈ allOf m) : s.length = m.length := (agr_iff.1 hs).1
theorem agr_at (hs : s ∈ allOf m) {i : Nat} (hi : i < m.length) : m[i]? = some 3 ∧ (s[i]? = some 1 ∨ s[i]? = some 2) ∨ m[i]? ≠ some 3 ∧ s[i]? = m[i]? := by
 obtain ⟨h1, h2⟩ := (agr_iff.1 hs).2 i hi
 by_cases h3 : m[i]? = some 3
 ·exact .inl ⟨h3, h1 h3⟩
 ·refine .inr ⟨h3, ?_⟩
  rw [h2 h3, List.getD_eq_getElem?_getD, List.getElem?_eq_getElem hi]; rfl
theorem live_iff (nn : Nat) (ds : List Dv) (s : List Int) {v : Int} (h0 : 0 ≤ v) (h1 : v < nn) : lvB (colsOf nn ds s) v = true ↔ HasK liveK ds s v := by
 unfold lvB
 rw [cols_get (colsOf_are nn ds s) h0 h1]
 unfold colV
 rcases ind_cases (HasK liveK ds s v) 1 with ⟨h, e⟩ | ⟨h, e⟩ <;> rcases ind_cases (HasK (· = 4) ds s v) 2 with ⟨h2, e2⟩ | ⟨h2, e2⟩ <;> rw [e, e2] <;> simp only [h, iff_true, iff_false] <;> decide +kernel
theorem high_most (hs : s ∈ allOf m) : ∀ k : Nat, s[k]? = some 2 → (fillL m 2)[k]? = some 2 := fun k hk => by
 have hkm : k < m.length := by have := (List.getElem?_eq_some_iff.1 hk).1; rw [agr_len hs] at this; exact this
 unfold fillL
 rw [List.getElem?_map, List.getElem?_eq_getElem hkm]
 simp only [Option.map_some, Option.some.injEq]
 rcases agr_at hs hkm with ⟨h1, -⟩ | ⟨h1, h2⟩
 ·rw [List.getElem?_eq_getElem hkm] at h1; injection h1 with h1; rw [if_pos h1]
 ·rw [hk, List.getElem?_eq_getElem hkm] at h2; injection h2 with h2
  rw [if_neg (fun e => by rw [e] at h2; cases h2)]; exact h2.symm
theorem live_may {nn : Nat} (hs : s ∈ allOf m) {v : Int} (h0 : 0 ≤ v) (h1 : v < nn) (hv : lvB (colsOf nn ds s) v = true) : lvB (colsOf nn ds (fillL m 2)) v = true := by
 rw [live_iff nn ds _ h0 h1] at hv ⊢
 exact hasK_mono (high_most hs) hv
end
section
variable {ns : List Nd} {ds : List Dv} {co : Int} {t u : Sm} {x : Sp}
end
end Go.Proofs.YtkkobemhbicjgaaGreatDoor
namespace Go.Proofs.YtkkobemhbicjgaaGreatDoor
open Go.RowKit
section
variable {ns : List Nd} {ds : List Dv} {co : Int} {t t2 u : Sm} {x : Sp} {m s : List Int}
theorem chTo_e (hd : ds.length ≤ 8) (hc : ChOk ns ds t) : (chTo ns ds co t x).e = 0 := by
 unfold chTo
 split
 ·exact cErr_ok hc.s hd
 split
 ·split <;> rfl
 split
 ·split <;> rfl
 split
 ·rfl
 split
 ·rfl
 split <;> rfl
theorem chRun_e (hd : ds.length ≤ 8) : ∀ (xs : List Sp) (i : Nat) (out : List Fn) (t : Sm), ChOk ns ds t → (∀ x ∈ xs, spErr ns.length ds.length x = 0) → (chRun ns ds co i out t xs).e = 0
 | [], _, _, _, _, _ => rfl
 | x :: r, i, out, t, hc, hx => by
  rw [chRun, if_neg (by simp [chTo_e hd hc])]
  split
  ·rfl
  ·exact chRun_e hd r _ _ _ (chTo_ok hc (hx x (by simp))) fun y hy => hx y (List.mem_cons_of_mem _ hy)
theorem chRun_mono : ∀ (xs : List Sp) (i : Nat) (out : List Fn) (t : Sm), (chRun ns ds co i out t xs).e = 0 → ∀ f ∈ out, f ∈ (chRun ns ds co i out t xs).o
 | [], _, _, _, _, _, hf => hf
 | x :: r, i, out, t, he, f, hf => by
  rw [chRun] at he ⊢
  split at he
  ·next h1 => exact absurd he h1
  next h1 =>
  rw [if_neg h1]
  split at he
  ·next h2 => rw [if_pos h2]; exact List.mem_append_left _ hf
  ·next h2 => rw [if_neg h2]; exact chRun_mono r _ _ _ he f (List.mem_append_left _ hf)
end
end Go.Proofs.YtkkobemhbicjgaaGreatDoor
namespace Go.Proofs.YtkkobemhbicjgaaGreatDoor
open Go.RowKit
section
variable {ns : List Nd} {ds : List Dv} {m s : List Int} {i : Nat} {x : Dv}
theorem prove_close (hd : ds.length ≤ 8) (hm : maskErr ns ds m = 0) (hx : ds[i]? = some x) (hk : x.kind = 4) (hp : x.comp = 0) (hi : m[i]? = some 1) :
 (chRun ns ds 0 0 [] ⟨m, [], []⟩ [⟨5, 0, x.a, 0, 0⟩, ⟨2, i, 0, 0, 0⟩]).e = 0 ∧ ((chRun ns ds 0 0 [] ⟨m, [], []⟩ [⟨5, 0, x.a, 0, 0⟩, ⟨2, i, 0, 0, 0⟩]).o = [] ↔ lvB (colsOf ns.length ds (fillL m 2)) x.a = false) := by
 have hnet := NetOk.of (maskErr_net hm).1
 have hxm := List.mem_of_getElem? hx
 have ha := hnet.a x hxm
 have him := (List.getElem?_eq_some_iff.1 hi).1
 rcases hv : lvB (colsOf ns.length ds (fillL m 2)) x.a with _ | _
 ·have h1 : chTo ns ds 0 ⟨m, [], []⟩ ⟨5, 0, x.a, 0, 0⟩ = ⟨0, [], ⟨m, [], [x.a]⟩, false⟩ := by
   rw [chTo5 rfl, if_neg (by simpa using hv)]
   simp [provL]
  have h2 : mayF ns ds m i 2 0 [] [x.a] = [] := by
   refine List.eq_nil_iff_forall_not_mem.mpr fun h hh => ?_
   obtain ⟨s, hs, hz, h7⟩ := (mayF_mem (d := (i : Int)) (by simpa using hx) h).1 hh
   rw [Int.toNat_natCast] at hz
   have hl := agr_len hs
   have hsi : s[i]? = some 1 := by
    rcases agr_at hs him with ⟨h3, -⟩ | ⟨-, h3⟩
    ·rw [hi] at h3; cases h3
    ·exact h3.trans hi
   have his := (List.getElem?_eq_some_iff.1 hsi).1
   have hj : joinsB x.kind = false := by rw [hk]; rfl
   have w1 : withL s i 1 = s := by rw [withL_is his, set_id hsi]
   have live2 : ∀ v : Int, HasK liveK ds (withL s i 2) v ↔ HasK liveK ds s v := fun v => by
    rw [has_lone his hx hj, w1]
    constructor
    ·rintro (h | ⟨h, -⟩)
     ·exact h
     ·rw [hk] at h; rcases h with h | h <;> cases h
    ·exact .inl
   have dead : ¬ HasK liveK ds s x.a := fun h => by
    have := live_may hs ha.1 ha.2 ((live_iff ns.length ds s ha.1 ha.2).2 h)
    rw [hv] at this; cases this
   unfold hzAt at hz
   rw [if_neg (by rw [getD_at hsi]; decide), hzL_mem] at hz
   rcases hz with ⟨-, hz⟩ | ⟨-, hz⟩ | ⟨-, hz⟩ | ⟨-, hz⟩ | ⟨-, hz⟩ | ⟨-, hz⟩ | ⟨-, hz⟩
   ·simp only [Bool.and_eq_true, decide_eq_true_eq] at hz
    rw [duty4 hnet.e hnet.a hxm] at hz
    rcases hz.2 with h | ⟨h, -⟩
    ·exact dead ((live2 _).1 (col3.1 h).1)
    ·rw [hj] at h; cases h
   ·unfold badB at hz; rw [hk] at hz; simp at hz
   ·unfold lostB at hz
    simp only [decide_eq_true_eq] at hz
    obtain ⟨k, y, -, -, hs1, hs2⟩ := hz
    refine hs2 ⟨(live2 _).2 hs1.1, fun h4 => ?_⟩
    rw [has_lone his hx hj, w1] at h4
    rcases h4 with h4 | ⟨-, h4⟩
    ·exact hs1.2 h4
    ·exact dead (hs1.1.conn (h4.sym ha.1))
   ·simp [lockB] at hz
   ·simp [hasB] at hz
   ·rw [hp] at hz; simp at hz
   ·cases hz
  have h3 : chTo ns ds 0 ⟨m, [], [x.a]⟩ ⟨2, i, 0, 0, 0⟩ = ⟨0, [], ⟨m.set i 2, [], [x.a]⟩, false⟩ := by
   rw [chToO (.inr rfl)]
   dsimp only
   rw [cErr_ok hm hd, Int.toNat_natCast, h2]
   have : clsB ds 2 (i : Int) = false := by unfold clsB; rw [Int.toNat_natCast, hx]; simp [hk]
   rw [this]; rfl
  have hr : chRun ns ds 0 0 [] ⟨m, [], []⟩ [⟨5, 0, x.a, 0, 0⟩, ⟨2, i, 0, 0, 0⟩] = ⟨0, [], ⟨m.set i 2, [], [x.a]⟩⟩ := by
   rw [chRun, h1, if_neg (by simp), if_neg (by simp), chRun, h3, if_neg (by simp), if_neg (by simp), chRun]
   simp [fnsOf]
  rw [hr]; simp
 ·have h1 : chTo ns ds 0 ⟨m, [], []⟩ ⟨5, 0, x.a, 0, 0⟩ = ⟨0, [8], ⟨m, [], []⟩, false⟩ := by
   rw [chTo5 rfl, if_pos hv]
  have hsp : ∀ z ∈ [(⟨2, i, 0, 0, 0⟩ : Sp)], spErr ns.length ds.length z = 0 := by
   intro z hz
   have hid := (List.getElem?_eq_some_iff.1 hx).1
   rw [List.mem_singleton] at hz
   subst hz
   unfold spErr Sp.posB Sp.keyB
   dsimp only
   rw [if_neg (by omega), if_neg (by omega), if_neg (by omega), if_neg (by simp), if_neg (by simp), if_neg (by simp)]
  have hok : ChOk ns ds ⟨m, [], []⟩ := ⟨hm, sm_locks (maskErr_net hm).1 ⟨by simp, by simp, List.Pairwise.nil⟩, rfl⟩
  have he := chRun_e (co := 0) hd [(⟨2, i, 0, 0, 0⟩ : Sp)] 1 ([] ++ fnsOf 0 [8]) ⟨m, [], []⟩ hok hsp
  have hmo := chRun_mono (ns := ns) (ds := ds) (co := 0) [(⟨2, i, 0, 0, 0⟩ : Sp)] 1 ([] ++ fnsOf 0 [8]) ⟨m, [], []⟩ he ⟨0, 8⟩ (by simp [fnsOf])
  rw [chRun, h1, if_neg (by simp), if_neg (by simp)]
  refine ⟨he, ?_⟩
  dsimp only at hmo ⊢
  constructor
  ·intro h; rw [h] at hmo; cases hmo
  ·intro h; cases h
theorem close_only (hd : ds.length ≤ 8) (hm : maskErr ns ds m = 0) (hx : ds[i]? = some x) (hk : x.kind = 4) (hi : m[i]? = some 1) :
 (chRun ns ds 0 0 [] ⟨m, [], []⟩ [⟨2, i, 0, 0, 0⟩]).e = 0 ∧ (chRun ns ds 0 0 [] ⟨m, [], []⟩ [⟨2, i, 0, 0, 0⟩]).o ≠ [] := by
 have him := (List.getElem?_eq_some_iff.1 hi).1
 have h5 : 5 ∈ mayF ns ds m i 2 0 [] [] := by
  refine (mayF_mem (d := (i : Int)) (by simpa using hx) 5).2 ⟨fillL m 2, fill_in m, ?_, .inl (by decide)⟩
  have hs1 : (fillL m 2)[i]? = some 1 := by
   rcases agr_at (fill_in m) him with ⟨h3, -⟩ | ⟨-, h3⟩
   ·rw [hi] at h3; cases h3
   ·exact h3.trans hi
  rw [Int.toNat_natCast]
  unfold hzAt
  rw [if_neg (by rw [getD_at hs1]; decide), hzL_mem]
  exact .inr (.inr (.inr (.inr (.inl ⟨rfl, by rw [hk]; simp [hasB]⟩))))
 have h3 : chTo ns ds 0 ⟨m, [], []⟩ ⟨2, i, 0, 0, 0⟩ = ⟨0, mayF ns ds m i 2 0 [] [], ⟨m.set i 2, [], []⟩, false⟩ := by
  rw [chToO (.inr rfl)]
  dsimp only
  rw [cErr_ok hm hd, Int.toNat_natCast]
  simp
 rw [chRun, h3, if_neg (by simp), if_neg (by simp), chRun]
 refine ⟨rfl, fun h => ?_⟩
 have hf : (⟨(0 : Nat), 5⟩ : Fn) ∈ ([] : List Fn) ++ fnsOf 0 (mayF ns ds m i 2 0 [] []) := List.mem_append_right _ (List.mem_map.mpr ⟨5, h5, rfl⟩)
 dsimp only at h
 rw [h] at hf; cases hf
end
end Go.Proofs.YtkkobemhbicjgaaGreatDoor
namespace Go.Proofs.YtkkobemhbicjgaaGreatDoor
open Go.RowKit
def nsW : List Nd := [⟨⟨#[65]⟩, 0, 0⟩]
def dsW : List Dv := [⟨⟨#[69]⟩, 4, 0, -1, 0⟩]
def xsW : List Sp := [⟨2, 0, 0, 0, 0⟩, ⟨3, 0, 0, 2, 4⟩]
theorem namesW : (∀ x ∈ nsW, x.name.size ≤ 9223372036854775807) ∧ (∀ x ∈ dsW, x.name.size ≤ 9223372036854775807) := by
 constructor <;> intro x hx <;> simp [nsW, dsW] at hx <;> rcases hx with rfl | rfl <;> decide
theorem chW : chErr nsW dsW [1] 0 [] [] ⟨#[80]⟩ xsW = 0 := by decide
theorem noLiveW (s : List Int) (v : Int) : ¬ HasK liveK dsW s v := by
 rintro ⟨k, x, hx, -, hk, -⟩
 rcases k with _ | k
 ·simp [dsW] at hx; subst hx; rcases hk with hk | hk <;> cases hk
 ·simp [dsW] at hx
theorem mayW : mayF nsW dsW [1] 0 2 0 [] [] = [5] := by
 have hx : dsW[(0 : Int).toNat]? = some ⟨⟨#[69]⟩, 4, 0, -1, 0⟩ := rfl
 have hnet := NetOk.of (ns := nsW) (ds := dsW) (by decide)
 refine (mayF_is hx ⟨by decide, by simp, fun h => ?_⟩).symm
 rw [List.mem_singleton]
 have h1 : ∀ s ∈ allOf ([1] : List Int), s[0]? = some 1 := fun s hs => by
  rcases agr_at hs (i := 0) (by decide) with ⟨h, -⟩ | ⟨-, h⟩
  ·cases h
  ·exact h
 constructor
 ·rintro rfl
  refine ⟨fillL [1] 2, fill_in _, ?_, .inl (by decide)⟩
  unfold hzAt
  rw [if_neg (by decide), hzL_mem]
  exact .inr (.inr (.inr (.inr (.inl ⟨rfl, by simp [hasB]⟩))))
 ·rintro ⟨s, hs, hz, -⟩
  have hs1 := h1 s hs
  unfold hzAt at hz
  rw [if_neg (by show ¬ s.getD 0 0 = 2; rw [getD_at hs1]; decide), hzL_mem] at hz
  rcases hz with ⟨-, hz⟩ | ⟨-, hz⟩ | ⟨-, hz⟩ | ⟨-, hz⟩ | ⟨h, -⟩ | ⟨-, hz⟩ | ⟨-, hz⟩
  ·simp only [Bool.and_eq_true, decide_eq_true_eq] at hz
   have := (duty4 hnet.e hnet.a (by simp [dsW])).1 hz.2
   rcases this with h | ⟨h, -⟩
   ·exact absurd (col3.1 h).1 (noLiveW _ _)
   ·cases h
  ·simp [badB] at hz
  ·unfold lostB at hz
   simp only [decide_eq_true_eq] at hz
   obtain ⟨k, y, -, -, h, -⟩ := hz
   exact absurd h.1 (noLiveW _ _)
  ·simp [lockB] at hz
  ·exact h
  ·simp at hz
  ·cases hz
theorem runW : chRun nsW dsW 0 0 [] ⟨[1], [], []⟩ xsW = ⟨0, [⟨0, 5⟩], ⟨[2], [⟨0, 2, 4⟩], []⟩⟩ := by
 have e1 : chTo nsW dsW 0 ⟨[1], [], []⟩ ⟨2, 0, 0, 0, 0⟩ = ⟨0, [5], ⟨[2], [], []⟩, false⟩ := by
  rw [chToO (.inr rfl)]
  dsimp only
  rw [mayW]; rfl
 have e2 : chTo nsW dsW 0 ⟨[2], [], []⟩ ⟨3, 0, 0, 2, 4⟩ = ⟨0, [], ⟨[2], [⟨0, 2, 4⟩], []⟩, false⟩ := by
  rw [chTo36 (.inl rfl)]
  have e3 : lkdTo nsW dsW [] ⟨3, 0, 0, 2, 4⟩ = ([⟨0, 2, 4⟩], true) := by
   unfold lkdTo
   rw [if_pos rfl, if_neg (by decide)]; rfl
  dsimp only
  rw [e3]; rfl
 unfold xsW
 rw [chRun, e1, if_neg (by decide), if_neg (by decide), chRun, e2, if_neg (by decide), if_neg (by decide), chRun]; rfl
theorem Blk.sl {w : World} {g n size : Nat} {T : TypeId} {cs : Array Value} {xs : List Value} (h : Blk w g T cs) (hc : cs.toList = xs) (hs : cs.size = n * size) (hn : n ≤ 100) : Sl w w.heap.size size (some ⟨g, 0, none⟩) n n xs := by
 subst hc
 refine ⟨by simpa using hs, Nat.le_refl _, by omega, (fun e => by cases e), fun _ => ⟨g, 0, rfl, h.lt, fun j u hu => ?_⟩⟩
 rw [Nat.zero_add, h.cell]; simpa using hu
def nW : Array Value := #[.string ⟨#[65]⟩, .int .i64 0, .int .i64 0]
def dW : Array Value := #[.string ⟨#[69]⟩, .int .i64 4, .int .i64 0, .int .i64 (-1), .int .i64 0]
def xW : Array Value := #[.int .i64 2, .int .i64 0, .int .i64 0, .int .i64 0, .int .i64 0, .int .i64 3, .int .i64 0, .int .i64 0, .int .i64 2, .int .i64 4]
theorem awake_any (w : World) (hl : Laid w) : Calls Tryz.prog 11 #[] w fun e w' => e = .returned (.bool true) ∧ Below w.heap.size w w' := by
 have HB : Hid (Bxs w [(85, nW), (57, dW), (30, #[.slice (some ⟨w.heap.size, 0, none⟩) 1 1, .slice (some ⟨w.heap.size + 1, 0, none⟩) 1 1]), (43, xW), (41, #[.string ⟨#[80]⟩, .slice (some ⟨w.heap.size + 1 + 1 + 1, 0, none⟩) 2 2])] _) := (Bxs.new4 w (85, nW) (57, dW) (30, #[.slice (some ⟨w.heap.size, 0, none⟩) 1 1, .slice (some ⟨w.heap.size + 1, 0, none⟩) 1 1]) (43, xW)).add (by simp) 41 #[.string ⟨#[80]⟩, .slice (some ⟨w.heap.size + 1 + 1 + 1, 0, none⟩) 2 2]
 have HLA := Lib.hid hl
 clear hl
 dsimp only [nW, dW, xW] at HB
 go_enter Tryz.func11, Tryz.ntmps11
 go_upto_region 3 with (fail)
 generalize World.alloc (World.alloc (World.alloc (World.alloc (World.alloc w _) _) _) _) _ = W at *
 rw [show w.heap.size + 1 + 1 = w.heap.size + 2 from rfl, show w.heap.size + 2 + 1 = w.heap.size + 3 from rfl, show w.heap.size + 3 + 1 = w.heap.size + 4 from rfl]
 have k0 := HB.out.b2.c0
 have k1 := HB.out.b2.c1
 have p0 := HB.out.b4.c0
 have p1 := HB.out.b4.c1
 have hlt := HB.out.b4.lt
 go_wp2_with fail
 clear k0 k1 p0 p1 hlt
 have HB1 := Lib.hid (HB.out.later ((Below.refl _ W).alloc (Nat.le_refl _) (.cells #[.int .i64 1] 3)))
 have HS1 : Hid (Sl (W.alloc (.cells #[.int .i64 1] 3)) (W.alloc (.cells #[.int .i64 1] 3)).heap.size 1 (some ⟨W.heap.size, 0, none⟩) 1 1 (intsV [1])) := (Sl.newest (n := 1) (size := 1) rfl rfl (by decide)).more (by simp)
 clear HB
 generalize World.alloc W _ = w1 at *
 have HM1 : Hid (SmMem w1 (some ⟨w.heap.size, 0, none⟩) (some ⟨w.heap.size + 1, 0, none⟩) (some ⟨W.heap.size, 0, none⟩) none none (some ⟨w.heap.size + 3, 0, none⟩) 1 1 1 1 1 1 0 0 0 0 2 2 nsW dsW [1] [] [] ⟨#[80]⟩ xsW) := ⟨⟨HB1.out.b0.sl rfl rfl (by decide), HB1.out.b1.sl rfl rfl (by decide), HS1.out, Sl.nil _ _ _, Sl.nil _ _ _, HLA.out.below HB1.out.l (Nat.le_refl _), namesW.1, namesW.2⟩, HB1.out.b3.sl rfl rfl (by decide), by decide⟩
 refine (chRun_any _ _ _ _ _ _ 1 1 1 1 1 1 0 0 0 0 2 2 nsW dsW [1] [] [] 0 ⟨#[80]⟩ xsW w1 HM1.out).mono ?_
 rintro e w2 ⟨⟨h1, -⟩ | ⟨-, h1, -⟩ | ⟨-, -, A1, A2, A3, A4, n1, c1, n2, c2, n3, c3, n4, c4, rfl, hR⟩, hb2⟩
 ·exact absurd chW h1
 ·rw [runW] at h1; exact absurd rfl h1
 rw [runW] at hR
 obtain rfl : 1 = n1 := hR.out.o.len (f := Fn.cells) (fun _ => rfl) (by decide)
 obtain rfl : 1 = n3 := hR.out.l.len (f := Lk.cells) (fun _ => rfl) (by decide)
 have HB2 : Hid (Below w.heap.size w w2) := HB1.out.l.trans (hb2.out.mono HB1.out.l.size)
 have HR2 := Lib.hid hR.out
 clear hR hb2 HB1 HS1 HM1
 go_upto_region 4 with (fail)
 have HG5 := Lib.hid (Blk.new w2 47 #[.slice A1 1 c1, .slice A2 n2 c2, .int .i64 0, .slice A3 1 c3, .slice A4 n4 c4])
 have HB3 : Hid (Below w2.heap.size w2 (w2.alloc (.cells #[.slice A1 1 c1, .slice A2 n2 c2, .int .i64 0, .slice A3 1 c3, .slice A4 n4 c4] 47))) := (Below.refl _ _).alloc (Nat.le_refl _) _
 have HF3 := Lib.hid ((HR2.out.o.below HB3.out (Nat.le_refl _)).more HB3.out.size)
 have HM3 := Lib.hid ((HR2.out.s.below HB3.out (Nat.le_refl _)).more HB3.out.size)
 replace HB3 := Lib.hid (HB2.out.trans (HB3.out.mono HB2.out.size))
 clear HB2 HR2
 dsimp only at HF3 HM3
 generalize World.alloc w2 _ = w3 at *
 obtain ⟨rb, hrb⟩ : ∃ x, x = w2.heap.size := ⟨_, rfl⟩
 rw [← hrb] at HG5 ⊢
 clear hrb
 have r0 := HG5.out.c0
 go_wp2_with fail
 clear r0
 have HBL : Hid (Below w3.heap.size w3 (w3.alloc (.cells #[.int .i64 0, .int .i64 5] 53))) := (Below.refl _ _).alloc (Nat.le_refl _) _
 have HN : Hid (Sl (w3.alloc (.cells #[.int .i64 0, .int .i64 5] 53)) (w3.alloc (.cells #[.int .i64 0, .int .i64 5] 53)).heap.size 2 (some ⟨w3.heap.size, 0, none⟩) 1 1 (([⟨0, 5⟩] : List Fn).flatMap Fn.cells)) := (Sl.newest (n := 1) (size := 2) rfl rfl (by decide)).more (by simp)
 have HF4 := Lib.hid ((HF3.out.below HBL.out (Nat.le_refl _)).more HBL.out.size)
 have HM4 := Lib.hid ((HM3.out.below HBL.out (Nat.le_refl _)).more HBL.out.size)
 have HG4 := Lib.hid (HG5.out.below HBL.out HG5.out.lt)
 have HB4 := Lib.hid (HB3.out.trans (HBL.out.mono HB3.out.size))
 clear HF3 HM3 HG5 HB3 HBL
 generalize World.alloc w3 _ = w4 at *
 refine (samef_any A1 _ 1 c1 1 1 w4.heap.size w4.heap.size _ _ w4 HF4.out HN.out (Nat.le_refl _) (Nat.le_refl _)).mono ?_
 rintro e w5 ⟨rfl, hb5⟩
 rw [show decide (([⟨0, 5⟩] : List Fn) = [⟨0, 5⟩]) = true from rfl]
 have HF5 := Lib.hid ((HF4.out.below hb5 (Nat.le_refl _)).more hb5.size)
 have HM5 := Lib.hid ((HM4.out.below hb5 (Nat.le_refl _)).more hb5.size)
 have HG6 := Lib.hid (HG4.out.below hb5 HG4.out.lt)
 have HB5 := Lib.hid (HB4.out.trans (hb5.mono HB4.out.size))
 clear hb5 HF4 HM4 HG4 HB4 HN
 have r1 := HG6.out.c1
 have r3 := HG6.out.c3
 have hlt := HG6.out.lt
 go_wp2_with fail
 clear r1 r3 hlt
 have HBL : Hid (Below w5.heap.size w5 (w5.alloc (.cells #[.int .i64 2] 3))) := (Below.refl _ _).alloc (Nat.le_refl _) _
 have HN : Hid (Sl (w5.alloc (.cells #[.int .i64 2] 3)) (w5.alloc (.cells #[.int .i64 2] 3)).heap.size 1 (some ⟨w5.heap.size, 0, none⟩) 1 1 (intsV [2])) := (Sl.newest (n := 1) (size := 1) rfl rfl (by decide)).more (by simp)
 have HF6 := Lib.hid ((HF5.out.below HBL.out (Nat.le_refl _)).more HBL.out.size)
 have HM6 := Lib.hid ((HM5.out.below HBL.out (Nat.le_refl _)).more HBL.out.size)
 have HG7 := Lib.hid (HG6.out.below HBL.out HG6.out.lt)
 have HB6 := Lib.hid (HB5.out.trans (HBL.out.mono HB5.out.size))
 clear HF5 HM5 HG6 HB5 HBL
 generalize World.alloc w5 _ = w6 at *
 refine (ints_any A2 _ n2 c2 1 1 w6.heap.size w6.heap.size [2] [2] w6 HM6.out HN.out (Nat.le_refl _) (Nat.le_refl _)).mono ?_
 rintro e w7 ⟨rfl, hb7⟩
 rw [show decide (([2] : List Int) = [2]) = true from rfl]
 have HF7 := Lib.hid ((HF6.out.below hb7 (Nat.le_refl _)).more hb7.size)
 have HG8 := Lib.hid (HG7.out.below hb7 HG7.out.lt)
 have HB7 := Lib.hid (HB6.out.trans (hb7.mono HB6.out.size))
 clear hb7 HF6 HM6 HG7 HB6 HN
 have r0 := HG8.out.c0
 have r1 := HG8.out.c1
 have r2 := HG8.out.c2
 have r3 := HG8.out.c3
 have r4 := HG8.out.c4
 have hlt := HG8.out.lt
 go_wp2_with fail
 clear r0 r1 r2 r3 r4 hlt
 have HBL : Hid (Below w7.heap.size w7 (w7.alloc (.cells #[.int .i64 5] 3))) := (Below.refl _ _).alloc (Nat.le_refl _) _
 have HN : Hid (Sl (w7.alloc (.cells #[.int .i64 5] 3)) (w7.alloc (.cells #[.int .i64 5] 3)).heap.size 1 (some ⟨w7.heap.size, 0, none⟩) 1 1 (intsV [5])) := (Sl.newest (n := 1) (size := 1) rfl rfl (by decide)).more (by simp)
 have HF8 := Lib.hid ((HF7.out.below HBL.out (Nat.le_refl _)).more HBL.out.size)
 have HB8 := Lib.hid (HB7.out.trans (HBL.out.mono HB7.out.size))
 clear HF7 HG8 HB7 HBL
 generalize World.alloc w7 _ = w8 at *
 refine (clean_any A1 A2 A3 A4 _ 1 c1 n2 c2 1 c3 n4 c4 1 1 0 [⟨0, 5⟩] [5] w8 HF8.out HN.out).mono ?_
 rintro e w9 ⟨rfl, hb9⟩
 rw [show clnB [⟨0, 5⟩] [5] = true from by decide]
 go_wp2_with fail
 go_ret
 exact ⟨rfl, HB8.out.trans (hb9.mono HB8.out.size)⟩
end Go.Proofs.YtkkobemhbicjgaaGreatDoor
