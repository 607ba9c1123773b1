import Derived.Test.YtfaknfmndafllaaGreatDoorW29
import Derived.Test.YtfaknfmndafllaaGreatDoorW35
import Derived.Test.YtfaknfmndafllaaGreatDoorW25
import Derived.Test.YtfaknfmndafllaaGreatDoorW30
import Derived.Test.YtfaknfmndafllaaGreatDoorW03
import Derived.Test.YtfaknfmndafllaaGreatDoorW04
import Derived.Test.YtfaknfmndafllaaGreatDoorW32
set_option maxRecDepth 100000
set_option maxHeartbeats 8000000
namespace Go.Proofs.YtfaknfmndafllaaGreatDoor
open Go.RowKit
end Go.Proofs.YtfaknfmndafllaaGreatDoor
namespace Go.Proofs.YtfaknfmndafllaaGreatDoor
open Go.RowKit
def FaIn (C : List Int) (v : Nat) (out : List Int) : Prop := out.length ≤ v ∧ ∀ x : Int, x ∈ out ↔ ∃ k : Nat, k < v ∧ x = k ∧ C.getD k 0 = 3
theorem FaIn.start (C : List Int) : FaIn C 0 [] := ⟨Nat.le_refl _, fun x => ⟨(fun h => by cases h), (fun ⟨k, hk, _⟩ => by omega)⟩⟩
theorem FaIn.pass {C out : List Int} {v : Nat} (h : FaIn C v out) (hn : C.getD v 0 ≠ 3) : FaIn C (v + 1) out := by
 refine ⟨by have := h.1; omega, fun x => (h.2 x).trans ⟨?_, ?_⟩⟩
 ·rintro ⟨k, hk, r⟩; exact ⟨k, by omega, r⟩
 ·rintro ⟨k, hk, e, hc⟩
  rcases Nat.lt_succ_iff_lt_or_eq.1 hk with hk | rfl
  ·exact ⟨k, hk, e, hc⟩
  ·exact absurd hc hn
theorem FaIn.put {C out : List Int} {v : Nat} (h : FaIn C v out) (hc : C.getD v 0 = 3) : FaIn C (v + 1) (out ++ [(v : Int)]) := by
 refine ⟨by have := h.1; simp; omega, fun x => ?_⟩
 rw [List.mem_append, h.2 x, List.mem_singleton]
 constructor
 ·rintro (⟨k, hk, r⟩ | rfl)
  ·exact ⟨k, by omega, r⟩
  ·exact ⟨v, by omega, rfl, hc⟩
 ·rintro ⟨k, hk, e, r⟩
  rcases Nat.lt_succ_iff_lt_or_eq.1 hk with hk | rfl
  ·exact .inl ⟨k, hk, e, r⟩
  ·exact .inr e
def FaL (nn : Nat) (ds : List Dv) (s out : List Int) : Prop := ∀ v : Int, v ∈ out ↔ ∃ k : Nat, k < nn ∧ v = k ∧ colV ds s k = 3
def FaR (w2 : World) (C : List Int) (nn gk : Nat) (ov iv : Value) (wr : World) : Prop := ∃ (v m co : Nat) (Ao : Option Addr) (out : List Int), iv = .int .i64 v ∧ ov = .slice Ao m co ∧ v ≤ nn ∧ gk = nn - v ∧ Hid (IntsO wr w2.heap.size Ao m co out) ∧ Hid (Below w2.heap.size w2 wr) ∧ Hid (FaIn C v out)
theorem rfaults_any (An Ad As : Option Addr) (nn cn nd cd n c : Nat) (ns : List Nd) (ds : List Dv) (s : List Int) (w : World) (hn : Sl w w.heap.size 3 An nn cn (ns.flatMap Nd.cells)) (hd : Sl w w.heap.size 5 Ad nd cd (ds.flatMap Dv.cells)) (hs : Sl w w.heap.size 1 As n c (intsV s))
 (hsn : ∀ x ∈ ns, x.name.size ≤ 9223372036854775807) (hsd : ∀ x ∈ ds, x.name.size ≤ 9223372036854775807) (hnn : nn ≤ 10000) (hse : stateErr ns ds s = 0) (hends : nd ≤ n ∧ EndsOk nn ds ∧ ∀ x ∈ ds, joinsB x.kind = true → x.b ≠ x.a) (hA : AOk nn ds ∧ ∀ x ∈ ds, 1 ≤ x.kind ∧ x.kind ≤ 6) :
 Calls Tryz.prog 30 #[.agg #[.slice An nn cn, .slice Ad nd cd], .slice As n c] w fun e w' => ∃ Ao m co out, e = .returned (.tuple #[.slice Ao m co, .int .i64 0]) ∧ Hid (IntsO w' w.heap.size Ao m co out) ∧ Hid (FaL nn ds s out ∧ out.length ≤ nn) ∧ Hid (Below w.heap.size w w') := by
 have HCK := Lib.hid (rcols_any An Ad As nn cn nd cd n c w.heap.size w.heap.size w.heap.size ns ds s (w.alloc (.cells #[.slice An nn cn, .slice Ad nd cd] 30)) (hn.alloc (Nat.le_refl _) _) (hd.alloc (Nat.le_refl _) _) (hs.alloc (Nat.le_refl _) _) (by simp) (by simp) (by simp) hsn hsd hnn (fun _ => hends) (fun _ => hA))
 rw [hse] at HCK
 clear hn hd hs hsn hsd hse hends hA
 go_enter Tryz.func30, Tryz.ntmps30
 go_upto_region 1 with (fail)
 have HB := Lib.hid (Blk.new w 30 #[.slice An nn cn, .slice Ad nd cd])
 have HW : Hid (Below w.heap.size w (w.alloc (.cells #[.slice An nn cn, .slice Ad nd cd] 30))) := (Below.refl _ _).alloc (Nat.le_refl _) _
 generalize World.alloc _ _ = w1 at *
 obtain ⟨nb, hnb⟩ : ∃ nb, nb = w.heap.size := ⟨_, rfl⟩
 rw [← hnb] at HB ⊢
 clear hnb
 have k0 := HB.out.c0
 have k1 := HB.out.c1
 go_wp2_with fail
 clear k0 k1
 refine HCK.out.mono ?_
 rintro e w2 ⟨hb2, h | ⟨_, Ac, C, rfl, hOc, hIC⟩⟩
 ·exact absurd rfl h.1
 have HBW := Lib.hid (HW.out.trans (hb2.out.mono HW.out.size))
 have HSC := Lib.hid hOc.out.sl
 clear hOc HCK HB HW hb2
 go_wp2_with fail
 go_loopg [8, 9] nn (FaR w2 C nn)
 case atStart => exact ⟨0, 0, 0, none, [], rfl, rfl, Nat.zero_le _, rfl, World.ownsRow_nil _ _ _ _, Below.refl _ _, FaIn.start _⟩
 case round =>
  obtain ⟨v, m, co, Ao, out, rfl, rfl, hv, rfl, hO, hbl, hsp⟩ := hrel
  by_cases hlt : v < nn
  ·obtain ⟨b, off, cv, rfl, hb, hcv, hc⟩ := (HSC.out.below hbl.out (Nat.le_refl _)).at1 hlt
   have HCV := Lib.hid (getD_of hcv)
   have hml : m ≤ nn := by have := hsp.out.1; rw [hO.out.len] at this; omega
   clear hcv
   by_cases h1 : cv = 3; rotate_left
   ·have q : (cv == 3) = false := by simpa using h1
    have HS1 := Lib.hid (hsp.out.pass (by rw [HCV.out]; exact h1))
    clear h1
    go_wp2_with fail
    go_roundg (nn - (v + 1))
    case rel => exact ⟨v + 1, m, co, Ao, out, by go_num, rfl, by omega, rfl, hO, hbl, HS1⟩
    case measure => omega
   ·have q : (cv == 3) = true := by simpa using h1
    have HS1 := Lib.hid (hsp.out.put (by rw [HCV.out]; exact h1))
    have hzz := hbl.out.size
    clear h1
    go_wp2_with (at_builtin; go_must (refine wpList_app rfl (.tmp 27) (.tmp 29) rfl el_int (by rfl) (hO.out.alloc _) (by rfl) (Sl.newest (n := 1) (by simp) (by rfl) (by decide)) (by simp [Value.oneCell']) (by omega) (by omega) (by simp; omega) ?_; intro A' cap' w3 hown3 hgr3 hat3; have HO3 := Lib.hid hown3; have HG3 := Lib.hid hgr3; clear hown3 hgr3 hat3))
    go_roundg (nn - (v + 1))
    case rel =>
     refine ⟨v + 1, m + 1, cap', A', out ++ [(v : Int)], by go_num, rfl, by omega, rfl, ?_, ?_, HS1⟩
     ·have := HO3.out
      unfold Hid IntsO
      rw [intsV_append]
      exact this
     ·refine (hbl.out.alloc hbl.out.size _).trans ⟨HG3.out.os, HG3.out.tape, HG3.out.output, HG3.out.size, fun i hi => HG3.out.block i (by simp; omega) (fun e => ?_)⟩
      have := (hO.out.lt i e.symm).1
      omega
    case measure => omega
  ·obtain rfl : v = nn := by omega
   have hii : decide (v < v) = false := by simp
   go_wp2_with fail
   go_ret2
   refine ⟨Ao, m, co, out, rfl, hO.out.mono HBW.out.size, ⟨fun x => (hsp.out.2 x).trans ?_, hsp.out.1⟩, HBW.out.trans (hbl.out.mono HBW.out.size)⟩
   constructor
   ·rintro ⟨k, hk, e, hc⟩; exact ⟨k, hk, e, by rw [getD_of (hIC.out.2 k hk)] at hc; exact hc⟩
   ·rintro ⟨k, hk, e, hc⟩; exact ⟨k, hk, e, by rw [getD_of (hIC.out.2 k hk)]; exact hc⟩
section
variable {nn : Nat} {ns : List Nd} {ds : List Dv} {s s' m : List Int} {x : Dv} {i : Nat}
def FB (ds : List Dv) (x : Dv) (i : Nat) (s : List Int) : Prop := colV ds (withL s i 2) x.a = 3 ∨ joinsB x.kind = true ∧ colV ds (withL s i 2) x.b = 3
theorem faultB_iff (he : EndsOk nn ds) (ha : AOk nn ds) (hx : x ∈ ds) : faultB x.kind x.a x.b (colsOf nn ds s) = true ↔ colV ds s x.a = 3 ∨ joinsB x.kind = true ∧ colV ds s x.b = 3 := by
 have hC := colsOf_are nn ds s
 have h1 := cols_get hC (ha x hx).1 (ha x hx).2
 unfold faultB
 rw [Bool.or_eq_true, Bool.and_eq_true, beq_iff_eq, beq_iff_eq, h1]
 constructor
 ·rintro (h | ⟨h, h2⟩)
  ·exact .inl h
  ·exact .inr ⟨h, by rw [cols_get hC (he x hx h).2.1 (he x hx h).2.2] at h2; exact h2⟩
 ·rintro (h | ⟨h, h2⟩)
  ·exact .inl h
  ·exact .inr ⟨h, by rw [cols_get hC (he x hx h).2.1 (he x hx h).2.2]; exact h2⟩
theorem duty4 (he : EndsOk nn ds) (ha : AOk nn ds) (hx : x ∈ ds) : dutyAt nn ns ds s i x = 4 ↔ FB ds x i s := by
 unfold dutyAt dutyV FB
 rw [← faultB_iff he ha hx]
 constructor
 ·intro h
  split at h
  ·assumption
  ·split at h
   ·cases h
   ·split at h
    ·cases h
    ·split at h <;> cases h
 ·intro h; rw [if_pos h]
theorem withL_is (hi : i < s.length) (p : Int) : withL s i p = s.set i p := by
 unfold withL
 rw [if_pos ⟨by omega, by omega⟩]; simp
end
end Go.Proofs.YtfaknfmndafllaaGreatDoor
namespace Go.Proofs.YtfaknfmndafllaaGreatDoor
structure UndC (ns : List Nd) (ds : List Dv) (s : List Int) (d : Nat) : Prop where
 won : ¬ LostP ns ds (tog s d) s
 fa : ∀ k : Nat, k < ns.length → colV ds s k ≠ 3
 fb : ∀ k : Nat, k < ns.length → colV ds (tog s d) k ≠ 3
 kd : ∀ x, ds[d]? = some x → x.kind ≠ 6
def UndW (ns : List Nd) (ds : List Dv) (M : Nat → Nat) : List Int → List Nat → Prop
 | _, [] => True
 | s, i :: p => UndC ns ds s (M i) ∧ UndW ns ds M (tog s (M i)) p
section
variable {ns : List Nd} {ds : List Dv} {s t : List Int} {d : Nat} {x : Dv}
theorem tog_is (s : List Int) (d : Nat) : tog s d = s.set d (3 - s.getD d 0) := rfl
theorem withL_tog (hd : d < s.length) (p : Int) : withL (tog s d) d p = withL s d p := by
 rw [withL_is (by rw [tog_len]; exact hd), withL_is hd, tog_is, List.set_set]
theorem getD_at (hd : d < s.length) : s[d]? = some (s.getD d 0) := by rw [List.getD_eq_getElem?_getD, List.getElem?_eq_getElem hd]; rfl
theorem set_own (hd : d < s.length) : s.set d (s.getD d 0) = s := by
 apply List.ext_getElem?
 intro e
 rw [List.getElem?_set]
 by_cases h : d = e
 ·subst h; rw [if_pos rfl, if_pos hd, getD_at hd]
 ·rw [if_neg h]
theorem duty_not4 (hN : NetOk ns ds) (hd : d < s.length) (hp : s.getD d 0 = 1 ∨ s.getD d 0 = 2) (hx : x ∈ ds) (hc : UndC ns ds s d) : dutyAt ns.length ns ds s d x ≠ 4 := fun h => by
 rw [duty4 hN.e hN.a hx] at h
 have key : ∀ v : Int, 0 ≤ v → v < ns.length → colV ds (withL s d 2) v ≠ 3 := fun v h0 h1 => by
  obtain ⟨k, rfl⟩ := Int.eq_ofNat_of_zero_le h0
  rcases hp with hp | hp
  ·have : withL s d 2 = tog s d := by rw [withL_is hd, tog_is, hp]; rfl
   rw [this]; exact hc.fb k (by omega)
  ·have : withL s d 2 = s := by
    rw [withL_is hd]
    have := set_own hd
    rwa [hp] at this
   rw [this]; exact hc.fa k (by omega)
 rcases h with h | ⟨hj, h⟩
 ·exact key _ (hN.a x hx).1 (hN.a x hx).2 h
 ·exact key _ (hN.e x hx hj).2.1 (hN.e x hx hj).2.2 h
theorem perm_back (hN : NetOk ns ds) (hd : d < s.length) (hp : s.getD d 0 = 1 ∨ s.getD d 0 = 2) (hx : ds[d]? = some x) (hm : mvB [] 0 x d = true) (hc : UndC ns ds s d) (hf : permB ns ds 0 [] [] [3, 5] s d = true) : permB ns ds 0 [] [] [5] (tog s d) d = true := by
 have hmem : x ∈ ds := List.mem_of_getElem? hx
 have hu : (tog s d).getD d 0 = 3 - s.getD d 0 := by rw [tog_getD s hd, if_pos rfl]
 have hdu : dutyAt ns.length ns ds (tog s d) d x = dutyAt ns.length ns ds s d x := by unfold dutyAt; rw [withL_tog hd, withL_tog hd]
 have h4 := duty_not4 hN hd hp hmem hc
 simp only [mvB, Bool.and_eq_true, Bool.not_eq_true', beq_eq_false_iff_ne, beq_iff_eq] at hm
 obtain ⟨⟨⟨k5, k1⟩, hco⟩, -⟩ := hm
 have k6 := hc.kd x hx
 unfold permB hzD at hf ⊢
 rw [Int.toNat_natCast, hx] at hf ⊢
 dsimp only at hf ⊢
 rw [List.all_eq_true] at hf ⊢
 unfold hzAt at hf ⊢
 rw [if_neg (by omega)] at hf
 rw [hu, if_neg (by omega)]
 have hb : badB x.kind (3 - s.getD d 0) (dutyAt ns.length ns ds s d x) (lvE (colsOf ns.length ds s) x) = false := by
  rw [Bool.eq_false_iff]
  intro h
  have := hf 2 (by rw [hzL_mem]; exact .inr (.inl ⟨rfl, h⟩))
  revert this; decide
 intro h hh
 rw [hzL_mem] at hh
 rcases hh with ⟨rfl, e⟩ | ⟨rfl, e⟩ | ⟨rfl, e⟩ | ⟨rfl, e⟩ | ⟨rfl, -⟩ | ⟨rfl, e⟩ | ⟨rfl, e⟩
 ·rw [hdu] at e
  simp [h4] at e
 ·rw [hdu] at e
  exfalso
  unfold badB at e hb
  by_cases h3 : x.kind = 3
  ·rw [if_pos h3] at e hb; rw [hb] at e; cases e
  ·rw [if_neg h3, if_neg k1] at e
   by_cases h4' : x.kind = 4
   ·rw [if_pos h4'] at e; simp [h4] at e
   ·rw [if_neg h4', if_neg k6] at e; simp [k5] at e
 ·have hw : withL (tog s d) d (3 - (3 - s.getD d 0)) = s := by
   rw [withL_tog hd, withL_is hd, show 3 - (3 - s.getD d 0) = s.getD d 0 by omega, set_own hd]
  rw [hw] at e
  unfold lostB at e
  exact absurd (by simpa using e) hc.won
 ·cases e
 ·decide
 ·rw [hco] at e; simp at e
 ·cases e
theorem mv_in {i : Nat} (h : i < (mvS ds [] 0 ds.length).length) : ∃ x, ds[mvF ds [] 0 i]? = some x ∧ mvB [] 0 x (mvF ds [] 0 i) = true := by
 have hm := List.mem_of_getElem? (mvF_at h)
 generalize mvF ds [] 0 i = d at hm
 unfold mvS at hm
 have h2 := (List.mem_filter.1 hm).2
 cases hx : ds[d]? with
 | none => rw [hx] at h2; cases h2
 | some x => rw [hx] at h2; exact ⟨x, rfl, h2⟩
theorem undo_way (hN : NetOk ns ds) : ∀ (p : List Nat) (s t : List Int), s.length = ds.length → P12 s ds.length → wk (stS (permB ns ds 0 [] [] [3, 5]) (mvF ds [] 0) (mvS ds [] 0 ds.length).length) s p = some t → UndW ns ds (mvF ds [] 0) s p →
 wk (stS (permB ns ds 0 [] [] [5]) (mvF ds [] 0) (mvS ds [] 0 ds.length).length) t p.reverse = some s
 | [], s, t, _, _, h, _ => by
  injection h with h; subst h; rfl
 | i :: p, s, t, hl, hs, h, hw => by
  obtain ⟨s', h1, h2⟩ := Option.bind_eq_some_iff.1 (show (stS (permB ns ds 0 [] [] [3, 5]) (mvF ds [] 0) (mvS ds [] 0 ds.length).length s i).bind (fun b => wk (stS (permB ns ds 0 [] [] [3, 5]) (mvF ds [] 0) (mvS ds [] 0 ds.length).length) b p) = some t from h)
  obtain ⟨⟨hi, hp⟩, rfl⟩ := stS_some.1 h1
  have hd : mvF ds [] 0 i < s.length := by rw [hl]; exact mvF_lt hi
  obtain ⟨x, hx, hm⟩ := mv_in hi
  have ih := undo_way hN p _ t (by rw [tog_len]; exact hl) (hs.tog hl _) h2 hw.2
  rw [List.reverse_cons, wk_app, ih]
  have hb := perm_back hN hd (hs _ (by omega)) hx hm hw.1 hp
  show (stS (permB ns ds 0 [] [] [5]) (mvF ds [] 0) (mvS ds [] 0 ds.length).length (tog s (mvF ds [] 0 i)) i).bind (fun b => wk (stS (permB ns ds 0 [] [] [5]) (mvF ds [] 0) (mvS ds [] 0 ds.length).length) b []) = some s
  rw [show stS (permB ns ds 0 [] [] [5]) (mvF ds [] 0) (mvS ds [] 0 ds.length).length (tog s (mvF ds [] 0 i)) i = some s from stS_some.2 ⟨⟨hi, hb⟩, tog_tog _ _⟩]
  rfl
theorem way_state {perm : List Int → Nat → Bool} {M : Nat → Nat} {m : Nat} : ∀ (p : List Nat) (s t : List Int), stateErr ns ds s = 0 → wk (stS perm M m) s p = some t → stateErr ns ds t = 0
 | [], s, t, hs, h => by injection h with h; subst h; exact hs
 | i :: p, s, t, hs, h => by
  obtain ⟨s', h1, h2⟩ := Option.bind_eq_some_iff.1 (show (stS perm M m s i).bind (fun b => wk (stS perm M m) b p) = some t from h)
  obtain ⟨-, rfl⟩ := stS_some.1 h1
  exact way_state p _ t (stateErr_tog hs _) h2
theorem undo_law (h : BayOk ns ds s) {p : List Nat} (hp : wk (stS (permB ns ds 0 [] [] [3, 5]) (mvF ds [] 0) (mvS ds [] 0 ds.length).length) s p = some t) (hw : UndW ns ds (mvF ds [] 0) s p) :
 stateErr ns ds t = 0 ∧ ¬ NoneIs (stS (permB ns ds 0 [] [] [5]) (mvF ds [] 0) (mvS ds [] 0 ds.length).length) t (goalT s) ∧
 ∀ q, SomeIs (stS (permB ns ds 0 [] [] [5]) (mvF ds [] 0) (mvS ds [] 0 ds.length).length) t (goalT s) q → q.length ≤ p.length ∧ wk (stS (permB ns ds 0 [] [] [5]) (mvF ds [] 0) (mvS ds [] 0 ds.length).length) t q = some s := by
 have hb := undo_way (NetOk.of h.check) p s t h.sl (state_p12 h.state h.sl) hp hw
 have hgt : goalT s s = some 0 := by unfold goalT; rw [if_pos rfl]
 refine ⟨way_state p s t h.state hp, fun hn => ?_, fun q hq => ?_⟩
 ·have := hn _ _ hb
  rw [hgt] at this; cases this
 ·obtain ⟨b, c, h1, h2, h3⟩ := hq
  obtain rfl := goal_at h2
  refine ⟨?_, h1⟩
  have := (h3 _ _ _ hb hgt).1
  rwa [List.length_reverse] at this
def aftL : List Int → List (Int × Int) → List Int
 | s, [] => s
 | s, o :: r => aftL (withL s o.1 o.2) r
theorem aft_way {k : Nat} {perm : List Int → Nat → Bool} {M : Nat → Nat} {m : Nat} (hM : ∀ i, i < m → M i < k) : ∀ (p : List Nat) (s t : List Int), s.length = k → wk (stS perm M m) s p = some t → aftL s (opsP M s p) = t
 | [], s, t, _, h => by injection h with h
 | i :: p, s, t, hl, h => by
  obtain ⟨s', h1, h2⟩ := Option.bind_eq_some_iff.1 (show (stS perm M m s i).bind (fun b => wk (stS perm M m) b p) = some t from h)
  obtain ⟨⟨hi, -⟩, rfl⟩ := stS_some.1 h1
  have hd := hM i hi
  show aftL (withL s (M i) (3 - s.getD (M i) 0)) (opsP M (tog s (M i)) p) = t
  rw [withL_is (by omega)]
  exact aft_way hM p _ t (by rw [List.length_set]; exact hl) h2
end
end Go.Proofs.YtfaknfmndafllaaGreatDoor
namespace Go.Proofs.YtfaknfmndafllaaGreatDoor
open Go.RowKit
theorem aft_snoc : ∀ (l : List (Int × Int)) (s : List Int) (o : Int × Int), aftL s (l ++ [o]) = withL (aftL s l) o.1 o.2
 | [], _, _ => rfl
 | _ :: l, _, o => aft_snoc l _ o
theorem aft_len : ∀ (l : List (Int × Int)) (s : List Int), (aftL s l).length = s.length
 | [], _ => rfl
 | o :: l, s => (aft_len l (withL s o.1 o.2)).trans (withL_len s o.1 o.2)
theorem op_at {w : World} {B m c i : Nat} {A : Option Addr} {l : List (Int × Int)} (h : Sl w B 2 A m c (opsV l)) (hi : i < m) : ∃ b off a p, A = some ⟨b, off, none⟩ ∧ b < B ∧ l[i]? = some (a, p) ∧ w.cell? ⟨b, off + i * 2, none⟩ = some (.int .i64 a) ∧ w.cell? ⟨b, off + i * 2 + 1, none⟩ = some (.int .i64 p) := by
 obtain ⟨b, off, x, e, hb, hx, hc⟩ := h.at (f := fun o : Int × Int => [Value.int .i64 o.1, .int .i64 o.2]) (fun _ => rfl) (by decide) hi
 exact ⟨b, off, x.1, x.2, e, hb, hx, hc 0 _ rfl, hc 1 _ rfl⟩
def AftR (w0 : World) (s : List Int) (ops : List (Int × Int)) (A : Option Addr) (n c m gk : Nat) (iv : Value) (wr : World) : Prop :=
 ∃ i : Nat, iv = .int .i64 i ∧ i ≤ m ∧ gk = m - i ∧ Hid (IntsO wr w0.heap.size A n c (aftL s (ops.take i))) ∧ Hid (Below w0.heap.size w0 wr)
theorem after_any (As Ao : Option Addr) (n cs m co : Nat) (s : List Int) (ops : List (Int × Int)) (w : World) (hs : Sl w w.heap.size 1 As n cs (intsV s)) (ho : Sl w w.heap.size 2 Ao m co (opsV ops)) (hn : n ≤ 1000000) (hm : m ≤ 1000000) :
 Calls Tryz.prog 31 #[.slice As n cs, .slice Ao m co] w (IntsPost w (aftL s ops)) := by
 have HLS := Lib.hid (hs.len (fun _ => rfl) (by decide))
 have HLO := Lib.hid (ho.len (f := fun o : Int × Int => [Value.int .i64 o.1, .int .i64 o.2]) (fun _ => rfl) (by decide))
 have hmc := ho.le
 have HS := Lib.hid hs; have HO := Lib.hid ho
 clear hs ho
 go_enter Tryz.func31, Tryz.ntmps31
 go_upto_region 2 with (at_builtin; go_must (refine wpList_app rfl _ (.tmp 7) rfl el_int (by rfl) (World.ownsRow_nil _ w.heap.size _ _) (by rfl) HS.out (ints_one s) (by omega) (by omega) (Nat.le_refl _) ?_; intro A4 c4 w4 hown4 hgr4 hat4; simp only [Nat.zero_add, List.nil_append] at hown4 hgr4 ⊢; have HO4 : Hid (IntsO w4 w.heap.size A4 n c4 s) := hown4; have HB4 : Hid (Below w.heap.size w w4) := below_none hgr4; clear hown4 hgr4 hat4))
 go_wp2_with fail
 refine wp_loop_u1 [(5, 0), (0, 2), (1, 0), (33, 1), (0, 0)] 6 (m) (AftR w s ops A4 n c4 m) (by (try dsimp only [gt]); exact ⟨0, rfl, Nat.zero_le _, rfl, HO4, HB4⟩) (by kernel_rfl) ?_
 intro u1 p6 gk wr a hrel ha J1 K1 hJ1 hK1
 dsimp only [relaxR, Go.Proofs.YtfaknfmndafllaaGreatDoor.v1, Nat.reduceAdd] at ha
 subst ha
 obtain ⟨i, rfl, hi, rfl, hO, hB⟩ := hrel
 have HR := Lib.hid hO.out; have HBL := Lib.hid hB.out
 clear hO hB HO4 HB4
 by_cases hlt : i < m; rotate_left
 ·have q1 : decide (i < m) = false := by simpa using hlt
  obtain rfl : i = m := by omega
  have HE : Hid (aftL s (ops.take i) = aftL s ops) := by unfold Hid; rw [List.take_of_length_le (by rw [HLO.out]; exact Nat.le_refl _)]
  rw [HE.out] at HR
  have HL2 : Hid ((aftL s ops).length = n) := by unfold Hid; rw [aft_len, HLS.out]
  go_wp2_with fail
  go_ret
  exact intsPost_mk HL2.out HR.out HBL.out
 have q1 : decide (i < m) = true := by simpa using hlt
 obtain ⟨b, off, a, p, rfl, hb, hx, e0, e1⟩ := op_at (HO.out.below HBL.out (Nat.le_refl _)) hlt
 have HN : Hid (aftL s (ops.take (i + 1)) = withL (aftL s (ops.take i)) a p) := by unfold Hid; rw [take_snoc hx, aft_snoc]
 have HLN : Hid ((aftL s (ops.take i)).length = n) := by unfold Hid; rw [aft_len, HLS.out]
 have hii : IntKind.i64.wrap ((i : Int) + 1) = (i : Int) + 1 := IntWalk.i64_in _ (by omega)
 clear hx
 by_cases h0 : 0 ≤ a; rotate_left
 ·have q2 : decide (0 ≤ a) = false := by simpa using h0
  have HR2 : Hid (IntsO wr w.heap.size A4 n c4 (aftL s (ops.take (i + 1)))) := by unfold Hid; rw [HN.out]; unfold withL; rw [if_neg (by omega)]; exact HR.out
  clear h0
  go_wp2_with fail
  refine Handed.intro (m - (i + 1)) (by omega) (hJ1 _ _ _ (LpI1.back 6 ?_ (by kernel_rfl)))
  dsimp only [gt]
  exact ⟨i + 1, by go_num, by omega, rfl, HR2, HBL⟩
 have q2 : decide (0 ≤ a) = true := by simpa using h0
 by_cases h1 : a < n; rotate_left
 ·have q3 : decide (a < (n : Int)) = false := by simpa using h1
  have HR2 : Hid (IntsO wr w.heap.size A4 n c4 (aftL s (ops.take (i + 1)))) := by unfold Hid; rw [HN.out]; unfold withL; rw [if_neg (by rw [HLN.out]; omega)]; exact HR.out
  clear h0 h1
  go_wp2_with fail
  refine Handed.intro (m - (i + 1)) (by omega) (hJ1 _ _ _ (LpI1.back 6 ?_ (by kernel_rfl)))
  dsimp only [gt]
  exact ⟨i + 1, by go_num, by omega, rfl, HR2, HBL⟩
 have q3 : decide (a < (n : Int)) = true := by simpa using h1
 obtain ⟨d, rfl⟩ := Int.eq_ofNat_of_zero_le h0
 have hd : d < n := by omega
 obtain ⟨g, x, rfl, hg1, hg2, hx, hcell, hfz, hst⟩ := HR.out.at hd
 have HST : Hid (IntsO (wr.setCell ⟨g, d, none⟩ (.int .i64 p)) w.heap.size (some ⟨g, 0, none⟩) n c4 (aftL s (ops.take (i + 1)))) := by unfold Hid; rw [HN.out, withL_is (by rw [HLN.out]; exact hd)]; exact hst p
 have HB2 := Lib.hid (HBL.out.setCell (p := ⟨g, d, none⟩) hg1 (.int .i64 p))
 clear h0 hx hst
 go_upto_region 6 with (fail)
 clear q1 q2 q3
 have HCS : Hid (wr.cell? ⟨b, off + i * 2, none⟩ = some (.int .i64 (d : Int)) ∧ wr.cell? ⟨b, off + i * 2 + 1, none⟩ = some (.int .i64 p)) := ⟨e0, e1⟩
 refine wp_region_J (S := fun W' => W'.cell? ⟨b, off + i * 2, none⟩ = some (.int .i64 (d : Int)) ∧ W'.cell? ⟨b, off + i * 2 + 1, none⟩ = some (.int .i64 p)) (J := [12]) (by kernel_rfl) ?_ (fun hHeld => ?_)
 ·exact HCS.out
 try dsimp only at hHeld
 refine tk 0 31 (mf 13 1) hHeld ?_
 refine tk 1 32 (mf 13 2) hHeld ?_
 refine tk 2 33 (mf 13 3) hHeld ?_
 refine tk 3 34 (mf 13 4) hHeld ?_
 refine tk 4 35 (mf 13 5) hHeld ?_
 refine wpAnyJ_takeL (i := 5) (d := some 36) (v := ?_) (mf 13 6) (by kernel_rfl) rfl rfl (by kernel_rfl) (by kernel_rfl) (by kernel_rfl) (by kernel_rfl) (by kernel_rfl) (fun _ _ _ h => h) (Or.inl ⟨by rfl, ?_⟩) hHeld ?_
 rotate_left
 ·(intro w hSw; (try dsimp only at hSw); have u0 := hSw.1; go_simp; try with_reducible rfl)
 try simp only [Act.put, sA, sB, sC]
 refine tk 6 37 (mf 13 7) hHeld ?_
 refine tk 7 38 (mf 13 8) hHeld ?_
 refine tk 8 39 (mf 13 9) hHeld ?_
 refine tk 9 40 (mf 13 10) hHeld ?_
 refine wpAnyJ_takeL (i := 10) (d := some 41) (v := ?_) (mf 13 11) (by kernel_rfl) rfl rfl (by kernel_rfl) (by kernel_rfl) (by kernel_rfl) (by kernel_rfl) (by kernel_rfl) (fun _ _ _ h => h) (Or.inl ⟨by rfl, ?_⟩) hHeld ?_
 rotate_left
 ·(intro w hSw; (try dsimp only at hSw); have u0 := hSw.2; go_simp; try with_reducible rfl)
 try simp only [Act.put, sA, sB, sC]
 refine tk 11 42 (mf 13 12) hHeld ?_
 refine wpAnyJ_oneL (k := 12) (mf 13 13) (by kernel_rfl) (by kernel_rfl) rfl (fun K hK => ?_)
 go_simp
 refine hK.out _ _ (fun h => by cases h) (fun _ => ?_)
 try clear hHeld
 clear hK K
 refine wpAnyJ_done (by kernel_rfl) ?_ _
 clear e0 e1 HCS hcell hfz
 go_wp2_with fail
 refine Handed.intro (m - (i + 1)) (by omega) (hJ1 _ _ _ (LpI1.back 6 ?_ (by kernel_rfl)))
 dsimp only [gt]
 exact ⟨i + 1, by go_num, by omega, rfl, HST, HB2.out.drew⟩
end Go.Proofs.YtfaknfmndafllaaGreatDoor
namespace Go.Proofs.YtfaknfmndafllaaGreatDoor
open Go.RowKit
def opSt (ds : List Dv) (o : Int × Int) : List Sp :=
 if o.2 = 1 then [⟨1, o.1, 0, 0, 0⟩] else match ds[o.1.toNat]? with
  | some x => if x.kind = 4 then [⟨5, 0, x.a, 0, 0⟩, ⟨2, o.1, 0, 0, 0⟩] else [⟨2, o.1, 0, 0, 0⟩]
  | none => [⟨2, o.1, 0, 0, 0⟩]
def opsSt (ds : List Dv) (l : List (Int × Int)) : List Sp := l.flatMap (opSt ds)
def spsV (l : List Sp) : List Value := l.flatMap Sp.cells
def GsI (W wr : World) (A : Option Addr) (c : Nat) (l : List Sp) : Prop := wr.ownsRow W.heap.size 56 5 (.slice A l.length c) l.length (spsV l) ∧ Below W.heap.size W wr
theorem GsI.later {W wr wr' : World} {A : Option Addr} {c : Nat} {l : List Sp} (h : GsI W wr A c l) (hb : Below wr.heap.size wr wr') : GsI W wr' A c l := ⟨own_later h.1 hb, h.2.trans (hb.mono h.2.size)⟩
def GsR (W : World) (ds : List Dv) (l : List (Int × Int)) (gk : Nat) (v5 iv : Value) (wr : World) : Prop :=
 ∃ (k : Nat) (A : Option Addr) (c : Nat), v5 = .slice A (opsSt ds (l.take k)).length c ∧ iv = .int .i64 k ∧ k ≤ l.length ∧ gk = l.length - k ∧ Hid (GsI W wr A c (opsSt ds (l.take k)))
theorem GsR.step {W wr : World} {ds : List Dv} {l : List (Int × Int)} {k c : Nat} {A : Option Addr} {m : List Sp} (e : opsSt ds (l.take (k + 1)) = m) (hk : k < l.length) (h : GsI W wr A c m) {N : Nat} (hN : m.length = N) : GsR W ds l (l.length - (k + 1)) (.slice A N c) (.int .i64 ((k : Int) + 1)) wr :=
 ⟨k + 1, A, c, by rw [e, hN], rfl, hk, rfl, by rw [e]; exact h⟩
end Go.Proofs.YtfaknfmndafllaaGreatDoor
namespace Go.Proofs.YtfaknfmndafllaaGreatDoor
open Go.RowKit
def rstE (ns : List Nd) (ds : List Dv) (s t : List Int) (co : Int) (ls : List Lk) (pr : List Int) : Int :=
 if stsE ns ds s t ≠ 0 then stsE ns ds s t else if grErr ns ds co ls pr ≠ 0 then grErr ns ds co ls pr else srErr ns ds s t co [] pr
structure RrM (z : World) (A : Option Addr) (n c : Nat) (l : List Sp) (wr : World) : Prop where
 b : Below z.heap.size z wr
 x : Blk wr z.heap.size 50 #[.string ⟨#[82, 69, 83, 84, 79, 82, 69]⟩, .slice A n c]
 o : wr.ownsRow (z.heap.size + 1) 56 5 (.slice A n c) n (spsV l)
 n : l.length = n
section
variable {z wr wr' : World} {A A' : Option Addr} {n c c' m : Nat} {l l' : List Sp}
theorem RrM.later (h : RrM z A n c l wr) (hb : Below wr.heap.size wr wr') : RrM z A n c l wr' :=
 ⟨h.b.trans (hb.mono h.b.size), h.x.below hb h.x.lt, own_later h.o hb, h.n⟩
end
end Go.Proofs.YtfaknfmndafllaaGreatDoor
namespace Go.Proofs.YtfaknfmndafllaaGreatDoor
def dsE : List Dv := [⟨⟨#[83]⟩, 5, 0, -1, 0⟩, ⟨⟨#[68]⟩, 3, 0, 1, 0⟩, ⟨⟨#[69]⟩, 4, 1, -1, 0⟩]
theorem dsE_cases {i : Nat} {x : Dv} (h : dsE[i]? = some x) : (i = 0 ∧ x = ⟨⟨#[83]⟩, 5, 0, -1, 0⟩) ∨ (i = 1 ∧ x = ⟨⟨#[68]⟩, 3, 0, 1, 0⟩) ∨ (i = 2 ∧ x = ⟨⟨#[69]⟩, 4, 1, -1, 0⟩) := by
 match i, h with
 | 0, h => left; exact ⟨rfl, (Option.some.inj h).symm⟩
 | 1, h => right; left; exact ⟨rfl, (Option.some.inj h).symm⟩
 | 2, h => right; right; exact ⟨rfl, (Option.some.inj h).symm⟩
 | i + 3, h => simp [dsE] at h
theorem partsE (p q : Int) : IsParts 2 dsE [p, 1, q] [0, 1] := by
 refine LInv.final ⟨rfl, fun v hv => ?_⟩ (fun i hi x hx hc hj => ?_)
 ·rcases (show v = 0 ∨ v = 1 by omega) with rfl | rfl
  ·exact ⟨0, rfl, Nat.le_refl _, Conn.refl _ _ _⟩
  ·exact ⟨1, rfl, Nat.le_refl _, Conn.refl _ _ _⟩
 ·rcases dsE_cases hx with ⟨rfl, rfl⟩ | ⟨rfl, rfl⟩ | ⟨rfl, rfl⟩
  ·cases hj
  ·cases hc
  ·cases hj
theorem connE01 (p q : Int) : Conn dsE [p, 2, q] 0 1 := by
 have := Conn.edge (ds := dsE) (s := [p, 2, q]) (u := 0) (i := 1) (x := ⟨⟨#[68]⟩, 3, 0, 1, 0⟩) rfl rfl (by decide)
 exact this
theorem apartE (p q : Int) : ¬ Conn dsE [p, 1, q] 0 1 := fun hc => by
 have := ((partsE p q).iff (u := 0) (v := 1) (by decide) (by decide)).2 hc
 simp at this
theorem liveE0 (q r : Int) : HasK liveK dsE [2, q, r] 0 := ⟨0, _, rfl, rfl, .inl rfl, Conn.refl _ _ _⟩
theorem liveE1 (r : Int) : HasK liveK dsE [2, 2, r] 1 := ⟨0, _, rfl, rfl, .inl rfl, connE01 2 r⟩
theorem deadE1 (r : Int) : ¬ HasK liveK dsE [2, 1, r] 1 := by
 rintro ⟨i, x, hx, hs, hk, hc⟩
 rcases dsE_cases hx with ⟨rfl, rfl⟩ | ⟨rfl, rfl⟩ | ⟨rfl, rfl⟩
 ·exact apartE 2 r hc
 ·rcases hk with hk | hk <;> cases hk
 ·rcases hk with hk | hk <;> cases hk
theorem earthE1 (p q : Int) : HasK (· = 4) dsE [p, q, 2] 1 := ⟨2, _, rfl, rfl, rfl, Conn.refl _ _ _⟩
theorem noEarthE (p q : Int) (v : Int) : ¬ HasK (· = 4) dsE [p, q, 1] v := by
 rintro ⟨i, x, hx, hs, hk, _⟩
 rcases dsE_cases hx with ⟨rfl, rfl⟩ | ⟨rfl, rfl⟩ | ⟨rfl, rfl⟩
 ·cases hk
 ·cases hk
 ·cases hs
theorem colsE_of {s c : List Int} (x0 x1 : Int) (hc : c = [x0, x1]) (h0 : colV dsE s 0 = x0) (h1 : colV dsE s 1 = x1) : IsCols 2 dsE s c := by
 subst hc
 refine ⟨rfl, fun v hv => ?_⟩
 rcases (show v = 0 ∨ v = 1 by omega) with rfl | rfl
 ·simpa using h0.symm
 ·simpa using h1.symm
theorem noLostE (s s2 : List Int) : lostB nsA dsE s s2 = false := by
 unfold lostB
 simp only [decide_eq_false_iff_not]
 rintro ⟨k, y, hy, hc, _⟩
 match k, hy with
 | 0, hy => rw [← Option.some.inj hy] at hc; cases hc
 | 1, hy => rw [← Option.some.inj hy] at hc; cases hc
 | k + 2, hy => simp [nsA] at hy
theorem permE1 : permB nsA dsE 0 [] [] [5] [2, 1, 2] 1 = false := by
 have h4 : dutyAt 2 nsA dsE [2, 1, 2] ((1 : Nat) : Int) ⟨⟨#[68]⟩, 3, 0, 1, 0⟩ = 4 := by
  have e2 : withL [2, 1, 2] ((1 : Nat) : Int) 2 = [2, 2, 2] := by decide
  unfold dutyAt dutyV
  rw [e2, if_pos]
  have h : colsOf 2 dsE [2, 2, 2] = [colV dsE [2, 2, 2] 0, 3] := colsOf_eq (colsE_of _ 3 rfl rfl (by unfold colV; rw [ind_pos (liveE1 2), ind_pos (earthE1 2 2)]; rfl))
  rw [h]
  simp [faultB, joinsB]
 have hm : (1 : Int) ∈ hzD nsA dsE [2, 1, 2] ((1 : Nat) : Int) 2 0 [] [] := by
  show (1 : Int) ∈ hzAt 2 nsA dsE [2, 1, 2] 1 2 0 [] [] ⟨⟨#[68]⟩, 3, 0, 1, 0⟩
  unfold hzAt
  rw [if_neg (by decide), hzL_mem, h4]
  exact .inl ⟨rfl, rfl⟩
 unfold permB
 rw [List.all_eq_false]
 exact ⟨1, hm, by decide⟩
theorem permE2 : permB nsA dsE 0 [] [] [5] [2, 1, 2] 2 = true := by
 have h4 : dutyAt 2 nsA dsE [2, 1, 2] ((2 : Nat) : Int) ⟨⟨#[69]⟩, 4, 1, -1, 0⟩ ≠ 4 := by
  have e2 : withL [2, 1, 2] ((2 : Nat) : Int) 2 = [2, 1, 2] := by decide
  have h : colsOf 2 dsE [2, 1, 2] = [colV dsE [2, 1, 2] 0, 2] := colsOf_eq (colsE_of _ 2 rfl rfl (by unfold colV; rw [ind_neg (deadE1 2), ind_pos (earthE1 2 1)]; rfl))
  unfold dutyAt dutyV
  rw [e2, h, if_neg (by simp [faultB, joinsB])]
  split
  ·decide
  split
  ·decide
  split <;> decide
 have he : hzD nsA dsE [2, 1, 2] ((2 : Nat) : Int) 1 0 [] [] = [] := by
  show hzAt 2 nsA dsE [2, 1, 2] 2 1 0 [] [] ⟨⟨#[69]⟩, 4, 1, -1, 0⟩ = []
  unfold hzAt
  rw [if_neg (by decide), noLostE]
  have h5 : dutyAt 2 nsA dsE [2, 1, 2] 2 ⟨⟨#[69]⟩, 4, 1, -1, 0⟩ ≠ 4 := h4
  simp [hzL, pickH, badB, h5, lockB]
 unfold permB
 show (hzD nsA dsE [2, 1, 2] ((2 : Nat) : Int) 1 0 [] []).all (hasB [5]) = true
 rw [he]; rfl
theorem permE3 : permB nsA dsE 0 [] [] [5] [2, 1, 1] 1 = true := by
 have hd : dutyAt 2 nsA dsE [2, 1, 1] ((1 : Nat) : Int) ⟨⟨#[68]⟩, 3, 0, 1, 0⟩ = 1 := by
  have e1 : withL [2, 1, 1] ((1 : Nat) : Int) 1 = [2, 1, 1] := by decide
  have e2 : withL [2, 1, 1] ((1 : Nat) : Int) 2 = [2, 2, 1] := by decide
  unfold dutyAt
  rw [e1, e2, partsOf_eq (partsE 2 1), colsOf_eq (colsE_of (s := [2, 1, 1]) 1 0 rfl (by unfold colV; rw [ind_pos (liveE0 1 1), ind_neg (noEarthE 2 1 0)]; rfl) (by unfold colV; rw [ind_neg (deadE1 1), ind_neg (noEarthE 2 1 1)]; rfl)), colsOf_eq (colsE_of (s := [2, 2, 1]) 1 1 rfl (by unfold colV; rw [ind_pos (liveE0 2 1), ind_neg (noEarthE 2 2 0)]; rfl) (by unfold colV; rw [ind_pos (liveE1 1), ind_neg (noEarthE 2 2 1)]; rfl))]
  unfold dutyV
  rw [if_neg (by decide), if_neg (by decide), noLoad, if_neg (by decide), if_pos (by decide)]
 have he : hzD nsA dsE [2, 1, 1] ((1 : Nat) : Int) 2 0 [] [] = [] := by
  show hzAt 2 nsA dsE [2, 1, 1] 1 2 0 [] [] ⟨⟨#[68]⟩, 3, 0, 1, 0⟩ = []
  unfold hzAt
  rw [if_neg (by decide), noLostE, hd]
  simp [hzL, pickH, badB, lockB]
 unfold permB
 show (hzD nsA dsE [2, 1, 1] ((1 : Nat) : Int) 2 0 [] []).all (hasB [5]) = true
 rw [he]; rfl
theorem mvE : (mvS dsE [] 0 dsE.length).length = 2 := by kernel_rfl
theorem mvE0 : mvF dsE [] 0 0 = 1 := by kernel_rfl
theorem mvE1 : mvF dsE [] 0 1 = 2 := by kernel_rfl
theorem errE : srErr nsA dsE [2, 1, 2] [2, 2, 1] 0 [] [] = 0 := by kernel_rfl
theorem wayE : SomeIs (stS (permB nsA dsE 0 [] [] [5]) (mvF dsE [] 0) (mvS dsE [] 0 dsE.length).length) [2, 1, 2] (goalT [2, 2, 1]) [1, 0] := by
 rw [mvE]
 have h0 : stS (permB nsA dsE 0 [] [] [5]) (mvF dsE [] 0) 2 [2, 1, 2] 0 = none := by
  unfold stS
  rw [mvE0, permE1, if_neg (by simp)]
 have h1 : stS (permB nsA dsE 0 [] [] [5]) (mvF dsE [] 0) 2 [2, 1, 2] 1 = some [2, 1, 1] := by
  unfold stS
  rw [mvE1, permE2, if_pos ⟨by decide, rfl⟩]; rfl
 have h2 : stS (permB nsA dsE 0 [] [] [5]) (mvF dsE [] 0) 2 [2, 1, 1] 0 = some [2, 2, 1] := by
  unfold stS
  rw [mvE0, permE3, if_pos ⟨by decide, rfl⟩]; rfl
 have hbig : ∀ (s : List Int) (i : Nat), 2 ≤ i → stS (permB nsA dsE 0 [] [] [5]) (mvF dsE [] 0) 2 s i = none := fun s i hi => by
  unfold stS
  rw [if_neg (by omega)]
 refine ⟨[2, 2, 1], 0, ?_, rfl, fun q b' c' hw hg => ?_⟩
 ·simp only [wk, h1, h2, Option.bind_some]
 ·have hb : b' = [2, 2, 1] ∧ c' = 0 := by
   unfold goalT at hg
   split at hg
   ·next h => exact ⟨h, by injection hg with hg; exact hg.symm⟩
   ·cases hg
  obtain ⟨rfl, rfl⟩ := hb
  match q, hw with
  | [], hw => injection hw with hw; exact absurd hw (by decide)
  | [i], hw =>
   exfalso
   rcases (show i = 0 ∨ i = 1 ∨ 2 ≤ i by omega) with rfl | rfl | hi
   ·simp only [wk, h0, Option.bind_none] at hw; cases hw
   ·simp only [wk, h1, Option.bind_some] at hw
    injection hw with hw; exact absurd hw (by decide)
   ·simp only [wk, hbig _ i hi, Option.bind_none] at hw; cases hw
  | [i, j], hw =>
   refine ⟨Nat.le_refl _, fun _ => ⟨Int.le_refl _, fun _ => ?_⟩⟩
   rcases (show i = 0 ∨ i = 1 ∨ 2 ≤ i by omega) with rfl | rfl | hi
   ·simp only [wk, h0, Option.bind_none] at hw; cases hw
   ·refine .inr ⟨rfl, ?_⟩
    rcases Nat.eq_zero_or_pos j with rfl | hj
    ·exact .inr ⟨rfl, trivial⟩
    ·exact .inl hj
   ·simp only [wk, hbig _ i hi, Option.bind_none] at hw; cases hw
  | i :: j :: k :: r, _ => exact ⟨by simp, fun h => by simp at h⟩
theorem opsE : opsP (mvF dsE [] 0) [2, 1, 2] [1, 0] = [(2, 1), (1, 2)] := by
 simp only [opsP, mvE0, mvE1]; rfl
theorem difE : dfL [2, 1, 2] [2, 2, 1] 3 = [1, 2] := by kernel_rfl
end Go.Proofs.YtfaknfmndafllaaGreatDoor
namespace Go.Proofs.YtfaknfmndafllaaGreatDoor
open Go.RowKit
def opE (a b : Int × Int) : Bool := a.1 == b.1 && a.2 == b.2
theorem run_neq_op (a b c d : Int) (w : World) : (binOp .neq 62 (.agg #[.int .i64 a, .int .i64 b]) (.agg #[.int .i64 c, .int .i64 d])).run Tryz.prog w = .ok (.bool (!opE (a, b) (c, d))) w := by
 have u3 := Tryz.underlying3
 have a3 := Tryz.isAgg3
 have z3 := Tryz.sizeOf3
 have hS : Tryz.prog.underlying 62 = some (.struct (Tryz.prog.fieldsOf 62)) := by kernel_rfl
 have hp : Tryz.prog.stoodInHeld 62 = false := by kernel_rfl
 rw [run_neq_struct, show (10000 : Nat) = 9999 + 1 from rfl, run_equalIn_agg w 9999 62 _ _ hS hp]
 simp only [Program.fieldsOf, Tryz.underlying62]
 go_simp
 by_cases h0 : a = c <;> by_cases h1 : b = d <;> simp [h0, h1, opE]
def SoR20 (w : World) (a b : List (Int × Int)) (n gk : Nat) (iv : Value) (wr : World) : Prop := ∃ i : Nat, iv = .int .i64 i ∧ i ≤ n ∧ gk = n - i ∧ Hid (a.take i = b.take i) ∧ Hid (Below w.heap.size w wr)
theorem sameo_any (A A2 : Option Addr) (n c n2 c2 B B2 : Nat) (a b : List (Int × Int)) (w : World) (ha : Sl w B 2 A n c (opsV a)) (hb : Sl w B2 2 A2 n2 c2 (opsV b)) (hB : B ≤ w.heap.size) (hB2 : B2 ≤ w.heap.size) :
 Calls Tryz.prog 24 #[.slice A n c, .slice A2 n2 c2] w fun e w' => e = .returned (.bool (decide (a = b))) ∧ Below w.heap.size w w' := by
 have HA := Lib.hid ha; have HB := Lib.hid hb
 have HLA := Lib.hid (ha.len (f := fun o : Int × Int => [Value.int .i64 o.1, Value.int .i64 o.2]) (fun _ => rfl) (by decide)); have HLB := Lib.hid (hb.len (f := fun o : Int × Int => [Value.int .i64 o.1, Value.int .i64 o.2]) (fun _ => rfl) (by decide))
 have hm1 := ha.le
 have hm2 := hb.le
 clear ha hb
 by_cases hl : n = n2; rotate_left
 ·have q1 : ((n : Int) != (n2 : Int)) = true := by simp; omega
  have q2 : (n != n2) = true := by simpa using hl
  have HV : Hid (decide (a = b) = false) := by
   refine decide_eq_false fun e => hl ?_
   have h1 := HLA.out; have h2 := HLB.out; rw [e] at h1; omega
  clear hl
  go_enter Tryz.func24, Tryz.ntmps24
  go_wp2_with fail
  go_ret
  exact ⟨by rw [HV.out]; rfl, Below.refl _ _⟩
 subst hl
 go_enter Tryz.func24, Tryz.ntmps24
 go_upto_region 4 with (fail)
 refine wp_loop_u1 [(3, 0), (0, 1), (0, 2), (4, 0), (14, 1)] 5 (n) (SoR20 w a b n) (by (try dsimp only [gt]); exact ⟨0, rfl, Nat.zero_le _, rfl, rfl, Below.refl _ _⟩) (by kernel_rfl) ?_
 intro u1 p5 gk wr a hrel ha J1 K1 hJ1 hK1
 dsimp only [relaxR, Go.Proofs.YtfaknfmndafllaaGreatDoor.v1, Nat.reduceAdd] at ha
 subst ha
 obtain ⟨i, rfl, hi, rfl, HE, HBL⟩ := hrel
 by_cases hlt : i < n; rotate_left
 ·have hii : decide ((i : Int) < (n : Int)) = false := by simp; omega
  have hii2 : decide (i < n) = false := by simp; omega
  have HV : Hid (decide (a = b) = true) := by
   have h := HE.out
   rw [List.take_of_length_le (by have := HLA.out; omega), List.take_of_length_le (by have := HLB.out; omega)] at h
   exact decide_eq_true h
  go_wp2_with fail
  go_ret
  exact ⟨by rw [HV.out]; rfl, HBL.out⟩
 obtain ⟨b1, o1, x, hA, hb1, hx, hc⟩ := (HA.out.below HBL.out hB).at (f := fun o : Int × Int => [Value.int .i64 o.1, Value.int .i64 o.2]) (fun _ => rfl) (by decide) hlt
 obtain ⟨b2, o2, y, hA2, hb2, hy, hd⟩ := (HB.out.below HBL.out hB2).at (f := fun o : Int × Int => [Value.int .i64 o.1, Value.int .i64 o.2]) (fun _ => rfl) (by decide) hlt
 obtain ⟨x1, x2⟩ := x
 obtain ⟨y1, y2⟩ := y
 have HCS : Hid ((wr.cell? ⟨b1, o1 + i * 2, none⟩ = some (.int .i64 x1) ∧ wr.cell? ⟨b1, o1 + i * 2 + 1, none⟩ = some (.int .i64 x2)) ∧ wr.cell? ⟨b2, o2 + i * 2, none⟩ = some (.int .i64 y1) ∧ wr.cell? ⟨b2, o2 + i * 2 + 1, none⟩ = some (.int .i64 y2)) := ⟨⟨hc 0 _ rfl, hc 1 _ rfl⟩, hd 0 _ rfl, hd 1 _ rfl⟩
 have HX := Lib.hid hx; have HY := Lib.hid hy
 subst hA hA2
 clear hc hd hx hy hb1 hb2
 have hq := run_neq_op x1 x2 y1 y2
 go_upto_region 6 with (fail)
 refine wp_region_J (S := fun W' => (W'.cell? ⟨b1, o1 + i * 2, none⟩ = some (.int .i64 x1) ∧ W'.cell? ⟨b1, o1 + i * 2 + 1, none⟩ = some (.int .i64 x2)) ∧ W'.cell? ⟨b2, o2 + i * 2, none⟩ = some (.int .i64 y1) ∧ W'.cell? ⟨b2, o2 + i * 2 + 1, none⟩ = some (.int .i64 y2)) (J := []) (by kernel_rfl) ?_ (fun hHeld => ?_)
 ·exact HCS.out
 try dsimp only at hHeld
 refine tk 0 17 (mf 9 1) hHeld ?_
 refine tk 1 18 (mf 9 2) hHeld ?_
 refine tk 2 19 (mf 9 3) hHeld ?_
 refine wpAnyJ_takeL (i := 3) (d := some 20) (v := ?_) (mf 9 4) (by kernel_rfl) rfl rfl (by kernel_rfl) (by kernel_rfl) (by kernel_rfl) (by kernel_rfl) (by kernel_rfl) (fun _ _ _ h => h) (Or.inl ⟨by rfl, ?_⟩) hHeld ?_
 rotate_left
 ·(intro w hSw; (try dsimp only at hSw); obtain ⟨⟨u0, u1⟩, -⟩ := hSw; go_simp; try with_reducible rfl)
 try simp only [Act.put, sA, sB, sC]
 refine tk 4 21 (mf 9 5) hHeld ?_
 refine tk 5 22 (mf 9 6) hHeld ?_
 refine tk 6 23 (mf 9 7) hHeld ?_
 refine wpAnyJ_takeL (i := 7) (d := some 24) (v := ?_) (mf 9 8) (by kernel_rfl) rfl rfl (by kernel_rfl) (by kernel_rfl) (by kernel_rfl) (by kernel_rfl) (by kernel_rfl) (fun _ _ _ h => h) (Or.inl ⟨by rfl, ?_⟩) hHeld ?_
 rotate_left
 ·(intro w hSw; (try dsimp only at hSw); obtain ⟨-, u0, u1⟩ := hSw; go_simp; try with_reducible rfl)
 try simp only [Act.put, sA, sB, sC]
 refine tk 8 25 (mf 9 9) hHeld ?_
 refine wpAnyJ_done (by kernel_rfl) ?_ _
 clear hHeld hq
 have HEQ : Hid (opE (x1, x2) (y1, y2) = true ↔ ((x1, x2) : Int × Int) = ⟨y1, y2⟩) := by unfold Hid opE; simp
 generalize opE (x1, x2) (y1, y2) = bb at *
 rcases bb with _ | _
 ·have HV : Hid (decide (a = b) = false) := by
   refine decide_eq_false fun e => ?_
   have h1 := HX.out; rw [e, HY.out] at h1
   have h2 := HEQ.out.mpr (Option.some.inj h1).symm
   cases h2
  clear HEQ
  go_wp2_with fail
  go_ret
  exact ⟨by rw [HV.out]; rfl, HBL.out.drew⟩
 ·have HN : Hid (a.take (i + 1) = b.take (i + 1)) := by unfold Hid; rw [take_snoc HX.out, take_snoc HY.out, HE.out, HEQ.out.mp rfl]
  clear HEQ
  go_wp2_with fail
  refine Handed.intro (n - (i + 1)) (by omega) (hJ1 _ _ _ (LpI1.back 5 ?_ (by kernel_rfl)))
  dsimp only [gt]
  exact ⟨i + 1, by go_num, by omega, rfl, HN, HBL.out.drew⟩
end Go.Proofs.YtfaknfmndafllaaGreatDoor
