import Derived.Test.YtddddlhgaeameaaGreatDoorM19
set_option maxRecDepth 100000
set_option maxHeartbeats 4000000
namespace Go.Proofs.YtddddlhgaeameaaGreatDoor
section
open Go.RowKit
def SlX (w : World) (g size : Nat) (A : Option Addr) (n c : Nat) (xs : List Value) : Prop := Sl w w.heap.size size A n c xs ∧ ∀ b off, A = some ⟨b, off, none⟩ → b ≠ g
section
variable {w w' : World} {g size n c base : Nat} {A : Option Addr} {xs : List Value}
theorem SlX.grown (h : SlX w g size A n c xs) (hg : w.grownBy w' (some g)) : SlX w' g size A n c xs := by
 obtain ⟨⟨h1, h2, h3, h4, h5⟩, h6⟩ := h
 refine ⟨⟨h1, h2, h3, h4, fun hn => ?_⟩, h6⟩
 obtain ⟨b, off, e, hb, hc⟩ := h5 hn
 refine ⟨b, off, e, Nat.lt_of_lt_of_le hb hg.size, fun j u hu => ?_⟩
 exact (World.cell?_of_block (hg.block b hb (fun e' => h6 b off e (by injection e')))).trans (hc j u hu)
theorem SlX.below (h : SlX w g size A n c xs) (hb : Below w.heap.size w w') : SlX w' g size A n c xs := ⟨(h.1.below hb lR).more hb.size, h.2⟩
theorem SlX.alloc (h : SlX w g size A n c xs) (o : Obj) : SlX (w.alloc o) g size A n c xs := h.below ((Below.refl _ _).alloc lR _)
theorem SlX.of_own {e : TypeId} (h : w.ownsRow base e size (.slice A n c) n xs) (hb : g < base) : SlX w g size A n c xs :=
 ⟨Sl.of_own h, fun b off e => by have := (h.lt b (by rw [e]; rfl)).1; omega⟩
end
def lC (w : World) (g nd : Nat) (e : Ending) (w' : World) : Prop :=
 ∃ (A : Option Addr) (c : Nat) (s : List Int), e = .returned (.slice A nd c) ∧ Hid (zS w' g) ∧ Hid (w.grownBy w' (some g)) ∧ Hid (zU w' (w.heap.size + 1) A nd c s) ∧ Hid (∀ p ∈ s, posB p = true)
def iS (w W : World) (g nd gk : Nat) (ov iv : Value) (wr : World) : Prop :=
 ∃ (i c : Nat) (A : Option Addr) (s : List Int), ov = .slice A i c ∧ iv = .int .i64 i ∧ i ≤ nd ∧ gk = nd - i ∧ Hid (zU wr (w.heap.size + 1) A i c s) ∧ Hid (zS wr g) ∧ Hid (W.grownBy wr (some g)) ∧ Hid (∀ p ∈ s, posB p = true)
theorem pm (g : Nat) (An Ad : Option Addr) (nn cn nd cd : Nat) (ds : List Dv) (w : World) (hd : zS w g) (hx : SlX w g 5 Ad nd cd (ds.flatMap Dv.cells)) (hnd : nd ≤ 1000) :
 Calls Tryz.prog 11 #[.pointer (some ⟨g, 0, none⟩), .agg #[.slice An nn cn, .slice Ad nd cd]] w (lC w g nd) := by
 have hlt := hd.lt
 have HD0 := iD (hd.alloc (.cells #[.slice An nn cn, .slice Ad nd cd] 26))
 have HX0 := iD (hx.alloc (.cells #[.slice An nn cn, .slice Ad nd cd] 26))
 have HK0 := iD (Blk.new w 26 #[.slice An nn cn, .slice Ad nd cd])
 have HB0 : Hid (w.grownBy (w.alloc (.cells #[.slice An nn cn, .slice Ad nd cd] 26)) (some g)) := zN ((Below.refl _ _).alloc lR _) _
 have HW : Hid ((w.alloc (.cells #[.slice An nn cn, .slice Ad nd cd] 26)).heap.size = w.heap.size + 1) := by unfold Hid; simp
 clear hd hx
 go_enter Tryz.func11, Tryz.ntmps11
 go_wp2_with fail
 generalize World.alloc _ _ = W at *
 go_loopg [5, 6] nd (iS w W g nd)
 case atStart => exact ⟨0, 0, none, [], rfl, rfl, Nat.zero_le _, rfl, World.ownsRow_nil _ _ _ _, HD0, xC _ _, fun p hp => by simp at hp⟩
 case round =>
  obtain ⟨i, c, A, s, rfl, rfl, hi, rfl, hO, hD, hG, hP⟩ := hrel
  have HKr := iD (HK0.out.grown hG.out (fun e => by injection e with e; omega))
  have HXr := iD (HX0.out.grown hG.out)
  have k1 := HKr.out.c1
  by_cases hlt2 : i < nd
  ·obtain ⟨b, off, x, rfl, hb, hx, hc⟩ := HXr.out.1.at (fun _ => rfl) (by decide) hlt2
   have hbg := HXr.out.2 b off rfl
   obtain ⟨nm, kd, xa, xb, co⟩ := x
   have c1 : wr.cell? ⟨b, off + i * 5 + 1, none⟩ = some (.int .i64 kd) := hc 1 _ rfl
   have HC1 := iD c1
   clear hc hx
   go_upto_region 6 with (fail)
   clear k1 c1
   have HCE : Hid (wr.cell? ⟨w.heap.size, 1, none⟩ = some (.slice (some ⟨b, off, none⟩) nd cd) ∧ wr.cell? ⟨b, off + i * 5 + 1, none⟩ = some (.int .i64 kd)) := ⟨HKr.out.cell 1, HC1.out⟩
   have hbl : w.heap.size < wr.heap.size := HKr.out.lt
   refine zF (S := fun W' => W'.cell? ⟨w.heap.size, 1, none⟩ = some (.slice (some ⟨b, off, none⟩) nd cd) ∧ W'.cell? ⟨b, off + i * 5 + 1, none⟩ = some (.int .i64 kd)) (J := []) (by kernel_rfl) ?_ (fun AA => ?_)
   ·exact HCE.out
   try dsimp only at AA
   refine tj 0 15 AA ?_
   refine tj 1 16 AA ?_
   refine tj 2 17 AA ?_
   refine tj 3 18 AA ?_
   refine tj 4 19 AA ?_
   refine tj 5 20 AA ?_
   refine tj 6 21 AA ?_
   refine tj 7 22 AA ?_
   refine yM (k := 8) (by kernel_rfl) rfl (fun K hK => ?_)
   (go_simp; refine (wQ g 4 wr.drew hD.out.drew (by decide)).mono ?_; rintro e w1 ⟨r, rfl, hd1, hg1, hs1⟩; have HG1 := iD (xg hg1.out); go_simp)
   refine hK.out _ _ (fun _ => ?_) (fun AA' => ?_)
   ·exact ⟨(World.cell?_of_block (HG1.out.block w.heap.size hbl (fun e => by injection e with e; omega))).trans HCE.out.1, (World.cell?_of_block (HG1.out.block b hb (fun e => hbg (by injection e)))).trans HCE.out.2⟩
   replace AA := AA' rfl
   clear AA' hK K
   try dsimp only at AA
   try simp only [Act.put, sA, sB, sC]
   refine tj 9 24 AA ?_
   refine zC (by kernel_rfl) ?_ _
   clear AA
   have HO1 := iD (hO.out.kept HG1.out (zm fun q e => by have := (hO.out.lt q e).1; omega))
   have hz1 := hs1.out
   have HGW := iD (zP hG.out HG1.out)
   have hz2 := HGW.out.size
   rw [HW.out] at hz2
   clear hg1 hs1 hz1 HCE HC1 HKr HXr HG1 hO hD hG
   obtain ⟨bb, hbb⟩ : ∃ bb, bb = (!((kd == 4) == r)) := ⟨_, rfl⟩
   rw [← hbb]
   clear hbb
   rcases bb with _ | _
   ·go_wp2_with (at_builtin; go_must (refine zT rfl (.tmp 25) (.tmp 27) rfl wA (by rfl) (HO1.out.alloc _) (by rfl) (Sl.newest (n := 1) (by simp) (by rfl) (by decide)) (by simp [Value.oneCell']) (by omega) (by omega) (by simp; omega) ?_; intro A' cap' w3 hown3 hgr3 hat3; have HO3 := iD hown3; have HG3 := iD hgr3; clear hown3 hgr3 hat3))
    go_roundg (nd - (i + 1))
    case rel =>
     have hg3 := HG3.out
     have hr1 : ∀ k, (Value.slice A i c).ownBlock = some k → w.heap.size + 1 ≤ k := fun k e => (HO1.out.lt k e).1
     refine ⟨i + 1, cap', A', s ++ [2], rfl, by go_num, by omega, rfl, ?_, ?_, ?_, ?_⟩
     ·have := HO3.out
      unfold Hid zU
      rw [yF]
      exact this
     ·exact (hd1.out.alloc _).grown hg3 (fun k e => by have := hr1 k e; omega)
     ·exact uB (zP HGW.out (zN ((Below.refl _ _).alloc lR _) _)) hg3 (fun k e => by have := hr1 k e; have := HW.out; omega)
     ·intro p hp
      rcases List.mem_append.1 hp with h | h
      ·exact hP.out p h
      ·rw [List.mem_singleton.1 h]; decide
    case measure => omega
   ·go_wp2_with (at_builtin; go_must (refine zT rfl (.tmp 25) (.tmp 27) rfl wA (by rfl) (HO1.out.alloc _) (by rfl) (Sl.newest (n := 1) (by simp) (by rfl) (by decide)) (by simp [Value.oneCell']) (by omega) (by omega) (by simp; omega) ?_; intro A' cap' w3 hown3 hgr3 hat3; have HO3 := iD hown3; have HG3 := iD hgr3; clear hown3 hgr3 hat3))
    go_roundg (nd - (i + 1))
    case rel =>
     have hg3 := HG3.out
     have hr1 : ∀ k, (Value.slice A i c).ownBlock = some k → w.heap.size + 1 ≤ k := fun k e => (HO1.out.lt k e).1
     refine ⟨i + 1, cap', A', s ++ [1], rfl, by go_num, by omega, rfl, ?_, ?_, ?_, ?_⟩
     ·have := HO3.out
      unfold Hid zU
      rw [yF]
      exact this
     ·exact (hd1.out.alloc _).grown hg3 (fun k e => by have := hr1 k e; omega)
     ·exact uB (zP HGW.out (zN ((Below.refl _ _).alloc lR _) _)) hg3 (fun k e => by have := hr1 k e; have := HW.out; omega)
     ·intro p hp
      rcases List.mem_append.1 hp with h | h
      ·exact hP.out p h
      ·rw [List.mem_singleton.1 h]; decide
    case measure => omega
  ·obtain rfl : i = nd := by omega
   have hii : decide (i < i) = false := by simp
   go_wp2_with fail
   go_ret
   exact ⟨A, c, s, rfl, hD, zP HB0.out hG.out, hO, hP⟩
end
section
open Go.RowKit
def rN (ns : List Nd) (C : List Int) (v : Nat) (out : List Int) : Prop := out.length ≤ v ∧ ∀ x : Int, x ∈ out ↔ ∃ (k : Nat) (y : Nd), k < v ∧ x = k ∧ C.getD k 0 = 1 ∧ ns[k]? = some y ∧ 0 < y.cust
theorem rN.start (ns : List Nd) (C : List Int) : rN ns C 0 [] := ⟨Nat.le_refl _, fun x => ⟨(fun h => by cases h), (fun ⟨k, _, hk, _⟩ => by omega)⟩⟩
theorem rN.pass {ns : List Nd} {C out : List Int} {v : Nat} {y : Nd} (h : rN ns C v out) (hy : ns[v]? = some y) (hn : ¬ (C.getD v 0 = 1 ∧ 0 < y.cust)) : rN ns C (v + 1) out := by
 refine ⟨by have := h.1; omega, fun x => (h.2 x).trans ⟨?_, ?_⟩⟩
 ·rintro ⟨k, z, hk, r⟩; exact ⟨k, z, by omega, r⟩
 ·rintro ⟨k, z, hk, e, hc, hz, hu⟩
  rcases Nat.lt_succ_iff_lt_or_eq.1 hk with hk | rfl
  ·exact ⟨k, z, hk, e, hc, hz, hu⟩
  ·rw [hy] at hz; injection hz with hz; subst hz; exact absurd ⟨hc, hu⟩ hn
theorem rN.put {ns : List Nd} {C out : List Int} {v : Nat} {y : Nd} (h : rN ns C v out) (hy : ns[v]? = some y) (hc : C.getD v 0 = 1) (hu : 0 < y.cust) : rN ns C (v + 1) (out ++ [(v : Int)]) := by
 refine ⟨by have := h.1; simp; omega, fun x => ?_⟩
 rw [List.mem_append, h.2 x, List.mem_singleton]
 constructor
 ·rintro (⟨k, z, hk, r⟩ | rfl)
  ·exact ⟨k, z, by omega, r⟩
  ·exact ⟨v, y, by omega, rfl, hc, hy, hu⟩
 ·rintro ⟨k, z, hk, e, r⟩
  rcases Nat.lt_succ_iff_lt_or_eq.1 hk with hk | rfl
  ·exact .inl ⟨k, z, hk, e, r⟩
  ·exact .inr e
def SpR (w2 : World) (ns : List Nd) (C : List Int) (nn gk : Nat) (ov iv : Value) (wr : World) : Prop := ∃ (v m co : Nat) (Ao : Option Addr) (out : List Int), iv = .int .i64 v ∧ ov = .slice Ao m co ∧ v ≤ nn ∧ gk = nn - v ∧ Hid (zU wr w2.heap.size Ao m co out) ∧ Hid (Below w2.heap.size w2 wr) ∧ Hid (rN ns C v out)
def jp (ns : List Nd) (ds : List Dv) (s out : List Int) : Prop := out.length ≤ ns.length ∧ ∀ x : Int, x ∈ out ↔ ∃ (k : Nat) (y : Nd), x = k ∧ ns[k]? = some y ∧ 0 < y.cust ∧ Sup ds s k
theorem rp (An Ad As : Option Addr) (nn cn nd cd n c : Nat) (ns : List Nd) (ds : List Dv) (s : List Int) (w : World) (hn : Sl w w.heap.size 3 An nn cn (ns.flatMap Nd.cells)) (hd : Sl w w.heap.size 5 Ad nd cd (ds.flatMap Dv.cells)) (hs : Sl w w.heap.size 1 As n c (zK s))
 (hsn : ∀ x ∈ ns, x.name.size ≤ 9223372036854775807) (hsd : ∀ x ∈ ds, x.name.size ≤ 9223372036854775807) (hnn : nn ≤ 10000) (hse : zL ns ds s = 0) (hends : nd ≤ n ∧ yu nn ds ∧ ∀ x ∈ ds, zX x.kind = true → x.b ≠ x.a) (hA : AOk nn ds ∧ ∀ x ∈ ds, 1 ≤ x.kind ∧ x.kind ≤ 6) :
 Calls Tryz.prog 96 #[.agg #[.slice An nn cn, .slice Ad nd cd], .slice As n c] w fun e w' => ∃ Ao m co out, e = .returned (.tuple #[.slice Ao m co, .int .i64 0]) ∧ Hid (zU w' w.heap.size Ao m co out) ∧ Hid (jp ns ds s out) ∧ Hid (Below w.heap.size w w') := by
 have HLN := iD (hn.len (fun _ => rfl) (by decide))
 have HCK := iD (wS An Ad As nn cn nd cd n c w.heap.size w.heap.size w.heap.size ns ds s (w.alloc (.cells #[.slice An nn cn, .slice Ad nd cd] 26)) (hn.alloc lR _) (hd.alloc lR _) (hs.alloc lR _) (by simp) (by simp) (by simp) hsn hsd hnn (fun _ => hends) (fun _ => hA))
 rw [hse] at HCK
 have HN := iD hn
 have hnle := hn.le
 clear hn hd hs hsn hsd hse hends hA
 go_enter Tryz.func96, Tryz.ntmps96
 go_upto_region 1 with (fail)
 have HB := iD (Blk.new w 26 #[.slice An nn cn, .slice Ad nd cd])
 have HW : Hid (Below w.heap.size w (w.alloc (.cells #[.slice An nn cn, .slice Ad nd cd] 26))) := (Below.refl _ _).alloc lR _
 generalize World.alloc _ _ = w1 at *
 obtain ⟨nb, hnb⟩ : ∃ nb, nb = w.heap.size := ⟨_, rfl⟩
 rw [← hnb] at HB ⊢
 clear hnb
 have k0 := HB.out.c0
 have k1 := HB.out.c1
 go_wp2_with fail
 clear k0 k1
 refine HCK.out.mono ?_
 rintro e w2 ⟨hb2, h | ⟨_, Ac, C, rfl, hOc, hIC⟩⟩
 ·exact absurd rfl h.1
 have HBX := iD (HB.out.below hb2.out HB.out.lt)
 have HBW := iD (HW.out.trans (hb2.out.mono HW.out.size))
 have HSC := iD hOc.out.sl
 have HSN := iD (HN.out.below HBW.out lR)
 clear hOc HCK HB HW hb2 HN
 go_wp2_with fail
 go_loopg [8, 9] nn (SpR w2 ns C nn)
 case atStart => exact ⟨0, 0, 0, none, [], rfl, rfl, Nat.zero_le _, rfl, World.ownsRow_nil _ _ _ _, Below.refl _ _, rN.start _ _⟩
 case round =>
  obtain ⟨v, m, co, Ao, out, rfl, rfl, hv, rfl, hO, hbl, hsp⟩ := hrel
  by_cases hlt : v < nn
  ·obtain ⟨b, off, cv, rfl, hb, hcv, hc⟩ := (HSC.out.below hbl.out lR).at1 hlt
   obtain ⟨b1, of1, z, rfl, hb1, hz, hcz⟩ := (HSN.out.below hbl.out HBW.out.size).at (fun _ => rfl) (by decide) hlt
   have HZ := iD hz
   have HCV := iD (yG hcv)
   obtain ⟨nm2, cu, co2⟩ := z
   have c1 : wr.cell? ⟨b1, of1 + v * 3 + 1, none⟩ = some (.int .i64 cu) := hcz 1 _ rfl
   have k0 := (HBX.out.below hbl.out HBX.out.lt).c0
   clear hcz hz hcv
   by_cases h1 : cv = 1; rotate_left
   ·have q : (cv == 1) = false := by simpa using h1
    have HS1 := iD (hsp.out.pass HZ.out (fun h => h1 (by have := h.1; rw [HCV.out] at this; exact this)))
    clear h1
    go_wp2_with fail
    go_roundg (nn - (v + 1))
    case rel => exact ⟨v + 1, m, co, Ao, out, by go_num, rfl, by omega, rfl, hO, hbl, HS1⟩
    case measure => omega
   ·have q : (cv == 1) = true := by simpa using h1
    by_cases hcu : 0 < cu; rotate_left
    ·have qc : decide (0 < cu) = false := by simpa using hcu
     have HS1 := iD (hsp.out.pass HZ.out (fun h => hcu h.2))
     clear h1 hcu
     go_wp2_with fail
     go_roundg (nn - (v + 1))
     case rel => exact ⟨v + 1, m, co, Ao, out, by go_num, rfl, by omega, rfl, hO, hbl, HS1⟩
     case measure => omega
    ·have qc : decide (0 < cu) = true := by simpa using hcu
     have HS1 := iD (hsp.out.put HZ.out (by rw [HCV.out]; exact h1) hcu)
     have hml : m ≤ nn := by have := hsp.out.1; rw [hO.out.len] at this; omega
     have hzz := hbl.out.size
     clear h1 hcu
     go_wp2_with (at_builtin; go_must (refine zT rfl (.tmp 36) (.tmp 38) rfl wA (by rfl) (hO.out.alloc _) (by rfl) (Sl.newest (n := 1) (by simp) (by rfl) (by decide)) (by simp [Value.oneCell']) (by omega) (by omega) (by simp; omega) ?_; intro A' cap' w3 hown3 hgr3 hat3; have HO3 := iD hown3; have HG3 := iD hgr3; clear hown3 hgr3 hat3))
     go_roundg (nn - (v + 1))
     case rel =>
      refine ⟨v + 1, m + 1, cap', A', out ++ [(v : Int)], by go_num, rfl, by omega, rfl, ?_, ?_, HS1⟩
      ·have := HO3.out
       unfold Hid zU
       rw [yF]
       exact this
      ·refine (hbl.out.alloc hbl.out.size _).trans ⟨HG3.out.os, HG3.out.tape, HG3.out.output, HG3.out.size, fun i hi => HG3.out.block i (by simp; omega) (fun e => ?_)⟩
       have := (hO.out.lt i e.symm).1
       omega
     case measure => omega
  ·obtain rfl : v = nn := by omega
   have hii : decide (v < v) = false := by simp
   go_wp2_with fail
   go_ret2
   refine ⟨Ao, m, co, out, rfl, hO.out.mono HBW.out.size, ⟨by rw [HLN.out]; exact hsp.out.1, fun x => (hsp.out.2 x).trans ?_⟩, HBW.out.trans (hbl.out.mono HBW.out.size)⟩
   have col : ∀ k : Nat, k < v → (C.getD k 0 = 1 ↔ Sup ds s k) := fun k hk => by rw [yG (hIC.out.2 k hk)]; exact nc
   constructor
   ·rintro ⟨k, y, hk, e, hc, hy, hu⟩; exact ⟨k, y, e, hy, hu, (col k hk).1 hc⟩
   ·rintro ⟨k, y, e, hy, hu, hc⟩
    have hk : k < v := by have := (List.getElem?_eq_some_iff.1 hy).1; rw [HLN.out] at this; exact this
    exact ⟨k, y, hk, e, (col k hk).2 hc, hy, hu⟩
end
section
open Go.RowKit
theorem mX (An Ad As : Option Addr) (nn cn nd cd n c Bn Bd Bs : Nat) (ns : List Nd) (ds : List Dv) (s : List Int) (w : World) (hn : Sl w Bn 3 An nn cn (ns.flatMap Nd.cells)) (hBn : Bn ≤ w.heap.size) (hd : Sl w Bd 5 Ad nd cd (ds.flatMap Dv.cells)) (hBd : Bd ≤ w.heap.size) (hs : Sl w Bs 1 As n c (zK s)) (hBs : Bs ≤ w.heap.size)
 (hnn : nn ≤ 10000) (hnd : nd ≤ 10000) (hl : nd ≤ n) (hends : yu nn ds) (hA : AOk nn ds) :
 Calls Tryz.prog 151 #[.agg #[.slice An nn cn, .slice Ad nd cd], .slice As n c] w fun e w' => ∃ Ao m co out, e = .returned (.slice Ao m co) ∧ Hid (zU w' w.heap.size Ao m co out) ∧ Hid (jp ns ds s out) ∧ Hid (Below w.heap.size w w') := by
 have HLN := iD (hn.len (fun _ => rfl) (by decide))
 have HCK := iD (vr An Ad As nn cn nd cd n c Bd Bs ds s (w.alloc (.cells #[.slice An nn cn, .slice Ad nd cd] 26)) (hd.alloc hBd _) (by simp; omega) (hs.alloc hBs _) (by simp; omega) hnn hnd hl hends hA)
 have HN := iD hn
 have hnle := hn.le
 clear hn hd hs hends hA
 go_enter Tryz.func151, Tryz.ntmps151
 go_upto_region 1 with (fail)
 have HB := iD (Blk.new w 26 #[.slice An nn cn, .slice Ad nd cd])
 have HW : Hid (Below w.heap.size w (w.alloc (.cells #[.slice An nn cn, .slice Ad nd cd] 26))) := (Below.refl _ _).alloc lR _
 generalize World.alloc _ _ = w1 at *
 obtain ⟨nb, hnb⟩ : ∃ nb, nb = w.heap.size := ⟨_, rfl⟩
 rw [← hnb] at HB ⊢
 have HNB := iD hnb
 clear hnb
 have k0 := HB.out.c0
 have k1 := HB.out.c1
 go_wp2_with fail
 clear k0 k1
 refine HCK.out.mono ?_
 rintro e w2 ⟨A1, A2, P, C, rfl, _, hOc, _, hIC, hb2⟩
 have HBX := iD (HB.out.below hb2.out HB.out.lt)
 have HBW := iD (HW.out.trans (hb2.out.mono HW.out.size))
 have HSC := iD hOc.out.sl
 have HSN := iD (HN.out.below HBW.out hBn)
 clear hOc HCK HB HW hb2 HN
 have k0 := HBX.out.c0
 go_wp2_with fail
 clear k0
 go_loopg [7, 19] nn (SpR w2 ns C nn)
 case atStart => exact ⟨0, 0, 0, none, [], rfl, rfl, Nat.zero_le _, rfl, World.ownsRow_nil _ _ _ _, Below.refl _ _, rN.start _ _⟩
 case round =>
  obtain ⟨v, m, co, Ao, out, rfl, rfl, hv, rfl, hO, hbl, hsp⟩ := hrel
  by_cases hlt : v < nn
  ·obtain ⟨b, off, cv, rfl, hb, hcv, hc⟩ := (HSC.out.below hbl.out lR).at1 hlt
   obtain ⟨b1, of1, z, rfl, hb1, hz, hcz⟩ := (HSN.out.below hbl.out (Nat.le_trans hBn HBW.out.size)).at (fun _ => rfl) (by decide) hlt
   have HZ := iD hz
   have HCV := iD (yG hcv)
   obtain ⟨nm2, cu, co2⟩ := z
   have c0 : wr.cell? ⟨b1, of1 + v * 3, none⟩ = some (.string nm2) := hcz 0 _ rfl
   have c1 : wr.cell? ⟨b1, of1 + v * 3 + 1, none⟩ = some (.int .i64 cu) := hcz 1 _ rfl
   have c2 : wr.cell? ⟨b1, of1 + v * 3 + 2, none⟩ = some (.int .i64 co2) := hcz 2 _ rfl
   have hbz : b < wr.heap.size := by have := hbl.out.size; omega
   have hne : b ≠ wr.heap.size := by omega
   have HBA : Hid (Below w2.heap.size w2 (wr.alloc (.cells #[.string nm2, .int .i64 cu, .int .i64 co2] 73))) := hbl.out.alloc hbl.out.size _
   have HOA : Hid (zU (wr.alloc (.cells #[.string nm2, .int .i64 cu, .int .i64 co2] 73)) w2.heap.size Ao m co out) := hO.out.alloc _
   clear hcz hz hcv
   by_cases hcu : 0 < cu; rotate_left
   ·have qc : decide (0 < cu) = false := by simpa using hcu
    have HS1 := iD (hsp.out.pass HZ.out (fun h => hcu h.2))
    clear hcu
    go_wp2_with fail
    go_roundg (nn - (v + 1))
    case rel => exact ⟨v + 1, m, co, Ao, out, by go_num, rfl, by omega, rfl, HOA, HBA, HS1⟩
    case measure => omega
   ·have qc : decide (0 < cu) = true := by simpa using hcu
    by_cases h1 : cv = 1; rotate_left
    ·have q : (cv == 1) = false := by simpa using h1
     have HS1 := iD (hsp.out.pass HZ.out (fun h => h1 (by have := h.1; rw [HCV.out] at this; exact this)))
     clear h1 hcu
     go_wp2_with fail
     go_roundg (nn - (v + 1))
     case rel => exact ⟨v + 1, m, co, Ao, out, by go_num, rfl, by omega, rfl, HOA, HBA, HS1⟩
     case measure => omega
    ·have q : (cv == 1) = true := by simpa using h1
     have HS1 := iD (hsp.out.put HZ.out (by rw [HCV.out]; exact h1) hcu)
     have hml : m ≤ nn := by have := hsp.out.1; rw [hO.out.len] at this; omega
     have hzz := HBA.out.size
     clear h1 hcu
     go_upto_region 7 with (fail)
     generalize World.alloc wr _ = wq at *
     clear c0 c1 c2 hc
     go_wp2_with (at_builtin; go_must (refine zT rfl (.tmp 34) (.tmp 36) rfl wA (by rfl) (HOA.out.alloc _) (by rfl) (Sl.newest (n := 1) (by simp) (by rfl) (by decide)) (by simp [Value.oneCell']) (by omega) (by omega) (by simp; omega) ?_; intro A' cap' w3 hown3 hgr3 hat3; have HO3 := iD hown3; have HG3 := iD hgr3; clear hown3 hgr3 hat3))
     go_roundg (nn - (v + 1))
     case rel =>
      refine ⟨v + 1, m + 1, cap', A', out ++ [(v : Int)], by go_num, rfl, by omega, rfl, ?_, ?_, HS1⟩
      ·have := HO3.out
       unfold Hid zU
       rw [yF]
       exact this
      ·refine (HBA.out.alloc HBA.out.size _).trans ⟨HG3.out.os, HG3.out.tape, HG3.out.output, HG3.out.size, fun i hi => HG3.out.block i (by simp; omega) (fun e => ?_)⟩
       have := (HOA.out.lt i e.symm).1
       omega
     case measure => omega
  ·obtain rfl : v = nn := by omega
   have hii : decide (v < v) = false := by simp
   go_wp2_with fail
   go_ret
   refine ⟨Ao, m, co, out, rfl, hO.out.mono HBW.out.size, ⟨by rw [HLN.out]; exact hsp.out.1, fun x => (hsp.out.2 x).trans ?_⟩, HBW.out.trans (hbl.out.mono HBW.out.size)⟩
   have col : ∀ k : Nat, k < v → (C.getD k 0 = 1 ↔ Sup ds s k) := fun k hk => by rw [yG (hIC.out.2 k hk)]; exact nc
   constructor
   ·rintro ⟨k, y, hk, e, hc, hy, hu⟩; exact ⟨k, y, e, hy, hu, (col k hk).1 hc⟩
   ·rintro ⟨k, y, e, hy, hu, hc⟩
    have hk : k < v := by have := (List.getElem?_eq_some_iff.1 hy).1; rw [HLN.out] at this; exact this
    exact ⟨k, y, hk, e, (col k hk).2 hc, hy, hu⟩
theorem tr (An Ad As : Option Addr) (nn cn nd cd n c Bn Bd Bs : Nat) (ns : List Nd) (ds : List Dv) (s : List Int) (w : World) (hL : Laid w) (hn : Sl w Bn 3 An nn cn (ns.flatMap Nd.cells)) (hBn : Bn ≤ w.heap.size) (hd : Sl w Bd 5 Ad nd cd (ds.flatMap Dv.cells)) (hBd : Bd ≤ w.heap.size) (hs : Sl w Bs 1 As n c (zK s)) (hBs : Bs ≤ w.heap.size)
 (hsn : ∀ x ∈ ns, x.name.size ≤ 9223372036854775807) (hsd : ∀ x ∈ ds, x.name.size ≤ 9223372036854775807) (h0 : zL ns ds s = 0) (hnn : nn ≤ 10000) (hnd : nd ≤ 10000) (hl : nd ≤ n) (hends : yu nn ds) (hA : AOk nn ds) :
 Calls Tryz.prog 136 #[.agg #[.slice An nn cn, .slice Ad nd cd], .slice As n c] w fun e w' => ∃ Ao m co out, e = .returned (.tuple #[.slice Ao m co, .int .i64 0]) ∧ Hid (zU w' w.heap.size Ao m co out) ∧ Hid (jp ns ds s out) ∧ Hid (Below w.heap.size w w') := by
 have HB : Hid (Below w.heap.size w (w.alloc (.cells #[.slice An nn cn, .slice Ad nd cd] 26))) := (Below.refl _ _).alloc lR _
 have HK := iD (Blk.new w 26 #[.slice An nn cn, .slice Ad nd cd])
 have HL := iD hL; have HN := iD hn; have HD := iD hd; have HS := iD hs; have HSN := iD hsn; have HSD := iD hsd; have H0 := iD h0; have HE := iD hends; have HA := iD hA
 clear hL hn hd hs hsn hsd h0 hends hA
 go_enter Tryz.func136, Tryz.ntmps136
 go_wp2_with fail
 generalize World.alloc _ _ = W at *
 have hz := HB.out.size
 have HC := iD (vR An Ad As nn cn nd cd n c Bn Bd Bs ns ds s W (HL.out.below HB.out lR) (HN.out.below HB.out hBn) (HD.out.below HB.out hBd) (HS.out.below HB.out hBs) (by omega) (by omega) (by omega) HSN.out HSD.out)
 rw [H0.out] at HC
 refine HC.out.mono ?_
 rintro e w1 ⟨rfl, hb1⟩
 have HB1 := iD (HB.out.trans (hb1.mono hz))
 have HK1 := iD (HK.out.below hb1 HK.out.lt)
 have hz1 := HB1.out.size
 clear hb1 HC HB HK hz
 have k0 := HK1.out.c0
 have k1 := HK1.out.c1
 go_wp2_with fail
 clear k0 k1
 refine (mX An Ad As nn cn nd cd n c Bn Bd Bs ns ds s w1 (HN.out.below HB1.out hBn) (by omega) (HD.out.below HB1.out hBd) (by omega) (HS.out.below HB1.out hBs) (by omega) hnn hnd hl HE.out HA.out).mono ?_
 rintro e w2 ⟨Ao, m, co, out, rfl, hO, hSL, hb2⟩
 go_wp2_with fail
 go_ret2
 exact ⟨Ao, m, co, out, rfl, hO.out.mono hz1, hSL, HB1.out.trans (hb2.out.mono hz1)⟩
def CuR (W : World) (m gk : Nat) (sv iv : Value) (wr : World) : Prop := ∃ (i : Nat) (k : Int), iv = .int .i64 i ∧ sv = .int .i64 k ∧ i ≤ m ∧ gk = m - i ∧ Hid (Below W.heap.size W wr)
theorem mw (An Ad A : Option Addr) (nn cn nd cd m c Bn B : Nat) (ns : List Nd) (l : List Int) (w : World) (hn : Sl w Bn 3 An nn cn (ns.flatMap Nd.cells)) (hBn : Bn ≤ w.heap.size) (hs : Sl w B 1 A m c (zK l)) (hB : B ≤ w.heap.size) (hl : ∀ v ∈ l, 0 ≤ v ∧ v < nn) :
 Calls Tryz.prog 139 #[.agg #[.slice An nn cn, .slice Ad nd cd], .slice A m c] w fun e w' => ∃ k : Int, e = .returned (.int .i64 k) ∧ Hid (Below w.heap.size w w') := by
 have HB0 : Hid (Below w.heap.size w (w.alloc (.cells #[.slice An nn cn, .slice Ad nd cd] 26))) := (Below.refl _ _).alloc lR _
 have HK := iD (Blk.new w 26 #[.slice An nn cn, .slice Ad nd cd])
 have HN := iD hn; have HS := iD hs; have HI := iD hl
 have hnle := hn.le; have hsle := hs.le
 clear hn hs hl
 go_enter Tryz.func139, Tryz.ntmps139
 go_wp2_with fail
 generalize World.alloc _ _ = W at *
 go_loopg [5, 10] m (CuR W m)
 case atStart => exact ⟨0, 0, rfl, rfl, Nat.zero_le _, rfl, Below.refl _ _⟩
 case round =>
  obtain ⟨i, k, rfl, rfl, hi, rfl, hbl⟩ := hrel
  have HB1 := iD (HB0.out.trans (hbl.out.mono HB0.out.size))
  by_cases hlt : i < m
  ·obtain ⟨b, off, v, rfl, hb, hv, hc⟩ := (HS.out.below HB1.out hB).at1 hlt
   obtain ⟨hv0, hv1⟩ := HI.out v (List.mem_of_getElem? hv)
   obtain ⟨t, rfl⟩ := Int.eq_ofNat_of_zero_le hv0
   have htn : t < nn := by omega
   obtain ⟨b1, of1, z, rfl, hb1, hz, hcz⟩ := (HN.out.below HB1.out hBn).at (fun _ => rfl) (by decide) htn
   obtain ⟨nm2, cu, co2⟩ := z
   have c1 : wr.cell? ⟨b1, of1 + t * 3 + 1, none⟩ = some (.int .i64 cu) := hcz 1 _ rfl
   have k0 := (HK.out.below hbl.out HK.out.lt).c0
   clear hcz hz hv
   go_wp2_with fail
   go_roundg (m - (i + 1))
   case rel => exact ⟨i + 1, _, by go_num, rfl, by omega, rfl, hbl⟩
   case measure => omega
  ·obtain rfl : i = m := by omega
   have hii : decide (i < i) = false := by simp
   go_wp2_with fail
   go_ret
   exact ⟨k, rfl, HB1⟩
end
section
open Go.RowKit
def rf (a b : List Int) (i : Nat) (out : List Int) : Prop := out.length ≤ i ∧ ∀ x : Int, x ∈ out ↔ x ∈ a.take i ∧ x ∉ b
theorem rf.start (a b : List Int) : rf a b 0 [] := ⟨Nat.le_refl _, fun x => by simp⟩
theorem rf.pass {a b out : List Int} {i : Nat} {x : Int} (h : rf a b i out) (hx : a[i]? = some x) (hm : x ∈ b) : rf a b (i + 1) out := by
 refine ⟨by have := h.1; omega, fun y => (h.2 y).trans ?_⟩
 rw [zV hx, List.mem_append, List.mem_singleton]
 exact ⟨fun k => ⟨.inl k.1, k.2⟩, fun k => ⟨k.1.elim id (fun e => by subst e; exact absurd hm k.2), k.2⟩⟩
theorem rf.put {a b out : List Int} {i : Nat} {x : Int} (h : rf a b i out) (hx : a[i]? = some x) (hm : x ∉ b) : rf a b (i + 1) (out ++ [x]) := by
 refine ⟨by have := h.1; simp; omega, fun y => ?_⟩
 rw [zV hx, List.mem_append, List.mem_singleton, List.mem_append, List.mem_singleton, h.2 y]
 exact ⟨fun k => k.elim (fun k => ⟨.inl k.1, k.2⟩) (fun e => by subst e; exact ⟨.inr rfl, hm⟩), fun k => k.1.elim (fun k1 => .inl ⟨k1, k.2⟩) .inr⟩
def iV (w3 : World) (a b : List Int) (na gk : Nat) (ov iv : Value) (wr : World) : Prop := ∃ (i m co : Nat) (Ao : Option Addr) (out : List Int), iv = .int .i64 i ∧ ov = .slice Ao m co ∧ i ≤ na ∧ gk = na - i ∧ Hid (zU wr w3.heap.size Ao m co out) ∧ Hid (Below w3.heap.size w3 wr) ∧ Hid (rf a b i out)
def mO (ns : List Nd) (ds : List Dv) (s s2 out : List Int) : Prop := ∀ x : Int, x ∈ out ↔ ∃ (k : Nat) (y : Nd), x = k ∧ ns[k]? = some y ∧ 0 < y.cust ∧ Sup ds s k ∧ ¬ Sup ds s2 k
theorem rq (An Ad As At : Option Addr) (nn cn nd cd n c n2 c2 : Nat) (ns : List Nd) (ds : List Dv) (s s2 : List Int) (w : World) (hn : Sl w w.heap.size 3 An nn cn (ns.flatMap Nd.cells)) (hd : Sl w w.heap.size 5 Ad nd cd (ds.flatMap Dv.cells)) (hs : Sl w w.heap.size 1 As n c (zK s)) (hs2 : Sl w w.heap.size 1 At n2 c2 (zK s2))
 (hsn : ∀ x ∈ ns, x.name.size ≤ 9223372036854775807) (hsd : ∀ x ∈ ds, x.name.size ≤ 9223372036854775807) (hnn : nn ≤ 10000) (hse : zL ns ds s = 0) (hse2 : zL ns ds s2 = 0) (hl1 : nd ≤ n) (hl2 : nd ≤ n2) (hends : yu nn ds ∧ ∀ x ∈ ds, zX x.kind = true → x.b ≠ x.a) (hA : AOk nn ds ∧ ∀ x ∈ ds, 1 ≤ x.kind ∧ x.kind ≤ 6) :
 Calls Tryz.prog 75 #[.agg #[.slice An nn cn, .slice Ad nd cd], .slice As n c, .slice At n2 c2] w fun e w' => ∃ Ao m co out k, e = .returned (.tuple #[.slice Ao m co, .int .i64 k, .int .i64 0]) ∧ Hid (out.length = m) ∧ Hid (m ≤ nn) ∧ Hid (mO ns ds s s2 out) ∧ Hid (Below w.heap.size w w') := by
 have HLN := iD (hn.len (fun _ => rfl) (by decide))
 have HN := iD hn; have HD := iD hd; have HS := iD hs; have HS2 := iD hs2
 have HNM := iD (And.intro hsn hsd)
 have HE := iD hends; have HA := iD hA; have HSE := iD hse; have HSE2 := iD hse2
 clear hn hd hs hs2 hsn hsd hse hse2 hends hA
 go_enter Tryz.func75, Tryz.ntmps75
 go_upto_region 1 with (fail)
 have HB := iD (Blk.new w 26 #[.slice An nn cn, .slice Ad nd cd])
 have HW : Hid (Below w.heap.size w (w.alloc (.cells #[.slice An nn cn, .slice Ad nd cd] 26))) := (Below.refl _ _).alloc lR _
 generalize World.alloc _ _ = w1 at *
 obtain ⟨nb, hnb⟩ : ∃ nb, nb = w.heap.size := ⟨_, rfl⟩
 rw [← hnb] at HB ⊢
 clear hnb
 have k0 := HB.out.c0
 have k1 := HB.out.c1
 go_wp2_with fail
 clear k0 k1
 refine (rp An Ad As nn cn nd cd n c ns ds s w1 ((HN.out.below HW.out lR).more HW.out.size) ((HD.out.below HW.out lR).more HW.out.size) ((HS.out.below HW.out lR).more HW.out.size) HNM.out.1 HNM.out.2 hnn HSE.out ⟨hl1, HE.out⟩ HA.out).mono ?_
 rintro e w2 ⟨Aa, ma, ca, la, rfl, hOa, hLa, hb2⟩
 have HB2 := iD (HB.out.below hb2.out HB.out.lt)
 have HW2 := iD (HW.out.trans (hb2.out.mono HW.out.size))
 clear HB hb2 HW
 have k0 := HB2.out.c0
 have k1 := HB2.out.c1
 go_wp2_with fail
 clear k0 k1
 refine (rp An Ad At nn cn nd cd n2 c2 ns ds s2 w2 ((HN.out.below HW2.out lR).more HW2.out.size) ((HD.out.below HW2.out lR).more HW2.out.size) ((HS2.out.below HW2.out lR).more HW2.out.size) HNM.out.1 HNM.out.2 hnn HSE2.out ⟨hl2, HE.out⟩ HA.out).mono ?_
 rintro e w3 ⟨Ab, mb, cb, lb, rfl, hOb, hLb, hb3⟩
 have HB3 := iD (HB2.out.below hb3.out HB2.out.lt)
 have HW3 := iD (HW2.out.trans (hb3.out.mono HW2.out.size))
 have HSA := iD (hOa.out.later hb3.out).sl
 have HSB := iD hOb.out.sl
 have HLA := iD hOa.out.len
 have hma : ma ≤ nn := by have := hLa.out.1; rw [HLA.out, HLN.out] at this; exact this
 clear HB2 hb3 HW2 hOa hOb
 go_wp2_with fail
 go_loopg [12, 13] ma (iV w3 la lb ma)
 case atStart => exact ⟨0, 0, 0, none, [], rfl, rfl, Nat.zero_le _, rfl, World.ownsRow_nil _ _ _ _, Below.refl _ _, rf.start _ _⟩
 case round =>
  obtain ⟨i, m, co, Ao, out, rfl, rfl, hi, rfl, hO, hbl, hin⟩ := hrel
  by_cases hlt : i < ma
  ·obtain ⟨b, off, x, rfl, hb, hx, hc⟩ := (HSA.out.below hbl.out lR).at1 hlt
   have HX := iD hx
   have HR := iD (vl Ab mb cb lb x wr ((HSB.out.below hbl.out lR).more hbl.out.size))
   clear hx
   rcases hm : decide (x ∈ lb) with _ | _
   ·rw [hm] at HR
    have HI := iD (hin.out.put HX.out (by simpa using hm))
    have hml : m ≤ nn := by have := hin.out.1; rw [hO.out.len] at this; omega
    have hzz := hbl.out.size
    clear hm
    go_wp2_with fail
    refine HR.out.mono ?_
    rintro e w4 ⟨rfl, rfl⟩
    go_wp2_with (at_builtin; go_must (refine zT rfl (.tmp 45) (.tmp 50) rfl wA (by rfl) (hO.out.alloc _) (by rfl) (Sl.newest (n := 1) (by simp) (by rfl) (by decide)) (by simp [Value.oneCell']) (by omega) (by omega) (by simp; omega) ?_; intro A' cap' w3 hown3 hgr3 hat3; have HO3 := iD hown3; have HG3 := iD hgr3; clear hown3 hgr3 hat3))
    go_roundg (ma - (i + 1))
    case rel =>
     refine ⟨i + 1, m + 1, cap', A', out ++ [x], by go_num, rfl, by omega, rfl, ?_, ?_, HI⟩
     ·have := HO3.out
      unfold Hid zU
      rw [yF]
      exact this
     ·refine (hbl.out.alloc hbl.out.size _).trans ⟨HG3.out.os, HG3.out.tape, HG3.out.output, HG3.out.size, fun i hi => HG3.out.block i (by simp; omega) (fun e => ?_)⟩
      have := (hO.out.lt i e.symm).1
      omega
    case measure => omega
   ·rw [hm] at HR
    have HI := iD (hin.out.pass HX.out (by simpa using hm))
    clear hm
    go_wp2_with fail
    refine HR.out.mono ?_
    rintro e w4 ⟨rfl, rfl⟩
    go_wp2_with fail
    go_roundg (ma - (i + 1))
    case rel => exact ⟨i + 1, m, co, Ao, out, by go_num, rfl, by omega, rfl, hO, hbl, HI⟩
    case measure => omega
  ·obtain rfl : i = ma := by omega
   have hii : decide (i < i) = false := by simp
   have k0 := (HB3.out.below hbl.out HB3.out.lt).c0
   have k1 := (HB3.out.below hbl.out HB3.out.lt).c1
   have HWr := iD (HW3.out.trans (hbl.out.mono HW3.out.size))
   have HLO : Hid (mO ns ds s s2 out) := fun x => by
    rw [hin.out.2 x, List.take_of_length_le (by rw [HLA.out]; exact Nat.le_refl _), hLa.out.2 x, hLb.out.2 x]
    constructor
    ·rintro ⟨⟨k, y, e, hy, hu, hc⟩, h2⟩; exact ⟨k, y, e, hy, hu, hc, fun h => h2 ⟨k, y, e, hy, hu, h⟩⟩
    ·rintro ⟨k, y, e, hy, hu, hc, h2⟩
     refine ⟨⟨k, y, e, hy, hu, hc⟩, ?_⟩
     rintro ⟨k', y', e', _, _, h⟩
     obtain rfl : k = k' := by omega
     exact h2 h
   have HOL := iD hO.out.len
   have hml : m ≤ nn := by have := hin.out.1; rw [HOL.out] at this; omega
   go_wp2_with fail
   clear k0 k1
   refine (lS An Ad Ao nn cn nd cd m co ns out wr ((HN.out.below HWr.out lR).more HWr.out.size) hO.out.sl (fun x hx => by
    obtain ⟨k, y, rfl, hy, _⟩ := (HLO.out x).1 hx
    have := (List.getElem?_eq_some_iff.1 hy).1
    rw [HLN.out] at this
    omega)).mono ?_
   rintro e w5 ⟨⟨k, rfl⟩, hb5⟩
   go_wp2_with fail
   go_ret3
   exact ⟨Ao, m, co, out, k, rfl, HOL, hml, HLO, HWr.out.trans (hb5.mono HWr.out.size)⟩
end
end Go.Proofs.YtddddlhgaeameaaGreatDoor
