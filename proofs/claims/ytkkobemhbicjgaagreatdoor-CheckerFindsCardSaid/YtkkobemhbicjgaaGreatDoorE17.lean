import Derived.Test.YtkkobemhbicjgaaGreatDoorE16
set_option maxRecDepth 100000
set_option maxHeartbeats 4000000
namespace Go.Proofs.YtkkobemhbicjgaaGreatDoor
section
open Go.RowKit
def SlX (w : World) (g size : Nat) (A : Option Addr) (n c : Nat) (xs : List Value) : Prop := Sl w w.heap.size size A n c xs ∧ ∀ b off, A = some ⟨b, off, none⟩ → b ≠ g
section
variable {w w' : World} {g size n c base : Nat} {A : Option Addr} {xs : List Value}
theorem SlX.grown (h : SlX w g size A n c xs) (hg : w.grownBy w' (some g)) : SlX w' g size A n c xs := by
 obtain ⟨⟨h1, h2, h3, h4, h5⟩, h6⟩ := h
 refine ⟨⟨h1, h2, h3, h4, fun hn => ?_⟩, h6⟩
 obtain ⟨b, off, e, hb, hc⟩ := h5 hn
 refine ⟨b, off, e, Nat.lt_of_lt_of_le hb hg.size, fun j u hu => ?_⟩
 exact (World.cell?_of_block (hg.block b hb (fun e' => h6 b off e (by injection e')))).trans (hc j u hu)
theorem SlX.below (h : SlX w g size A n c xs) (hb : Below w.heap.size w w') : SlX w' g size A n c xs := ⟨(h.1.below hb lR).more hb.size, h.2⟩
theorem SlX.alloc (h : SlX w g size A n c xs) (o : Obj) : SlX (w.alloc o) g size A n c xs := h.below ((Below.refl _ _).alloc lR _)
theorem SlX.of_own {e : TypeId} (h : w.ownsRow base e size (.slice A n c) n xs) (hb : g < base) : SlX w g size A n c xs :=
 ⟨Sl.of_own h, fun b off e => by have := (h.lt b (by rw [e]; rfl)).1; omega⟩
end
def ly (w : World) (g nd : Nat) (e : Ending) (w' : World) : Prop :=
 ∃ (A : Option Addr) (c : Nat) (s : List Int), e = .returned (.slice A nd c) ∧ Hid (zP w' g) ∧ Hid (w.grownBy w' (some g)) ∧ Hid (zO w' (w.heap.size + 1) A nd c s) ∧ Hid (∀ p ∈ s, posB p = true)
def fY (w W : World) (g nd gk : Nat) (ov iv : Value) (wr : World) : Prop :=
 ∃ (i c : Nat) (A : Option Addr) (s : List Int), ov = .slice A i c ∧ iv = .int .i64 i ∧ i ≤ nd ∧ gk = nd - i ∧ Hid (zO wr (w.heap.size + 1) A i c s) ∧ Hid (zP wr g) ∧ Hid (W.grownBy wr (some g)) ∧ Hid (∀ p ∈ s, posB p = true)
theorem pR (g : Nat) (An Ad : Option Addr) (nn cn nd cd : Nat) (ds : List Dv) (w : World) (hd : zP w g) (hx : SlX w g 5 Ad nd cd (ds.flatMap Dv.cells)) (hnd : nd ≤ 1000) :
 Calls Tryz.prog 22 #[.pointer (some ⟨g, 0, none⟩), .agg #[.slice An nn cn, .slice Ad nd cd]] w (ly w g nd) := by
 have hlt := hd.lt
 have HD0 := iD (hd.alloc (.cells #[.slice An nn cn, .slice Ad nd cd] 30))
 have HX0 := iD (hx.alloc (.cells #[.slice An nn cn, .slice Ad nd cd] 30))
 have HK0 := iD (Blk.new w 30 #[.slice An nn cn, .slice Ad nd cd])
 have HB0 : Hid (w.grownBy (w.alloc (.cells #[.slice An nn cn, .slice Ad nd cd] 30)) (some g)) := zL ((Below.refl _ _).alloc lR _) _
 have HW : Hid ((w.alloc (.cells #[.slice An nn cn, .slice Ad nd cd] 30)).heap.size = w.heap.size + 1) := by unfold Hid; simp
 clear hd hx
 go_enter Tryz.func22, Tryz.ntmps22
 go_wp2_with fail
 generalize World.alloc _ _ = W at *
 go_loopg [5, 6] nd (fY w W g nd)
 case atStart => exact ⟨0, 0, none, [], rfl, rfl, Nat.zero_le _, rfl, World.ownsRow_nil _ _ _ _, HD0, yz _ _, fun p hp => by simp at hp⟩
 case round =>
  obtain ⟨i, c, A, s, rfl, rfl, hi, rfl, hO, hD, hG, hP⟩ := hrel
  have HKr := iD (HK0.out.grown hG.out (fun e => by injection e with e; omega))
  have HXr := iD (HX0.out.grown hG.out)
  have k1 := HKr.out.c1
  by_cases hlt2 : i < nd
  ·obtain ⟨b, off, x, rfl, hb, hx, hc⟩ := HXr.out.1.at (fun _ => rfl) (by decide) hlt2
   have hbg := HXr.out.2 b off rfl
   obtain ⟨nm, kd, xa, xb, co⟩ := x
   have c1 : wr.cell? ⟨b, off + i * 5 + 1, none⟩ = some (.int .i64 kd) := hc 1 _ rfl
   have HC1 := iD c1
   clear hc hx
   go_upto_region 6 with (fail)
   clear k1 c1
   have HCE : Hid (wr.cell? ⟨w.heap.size, 1, none⟩ = some (.slice (some ⟨b, off, none⟩) nd cd) ∧ wr.cell? ⟨b, off + i * 5 + 1, none⟩ = some (.int .i64 kd)) := ⟨HKr.out.cell 1, HC1.out⟩
   have hbl : w.heap.size < wr.heap.size := HKr.out.lt
   refine zC (S := fun W' => W'.cell? ⟨w.heap.size, 1, none⟩ = some (.slice (some ⟨b, off, none⟩) nd cd) ∧ W'.cell? ⟨b, off + i * 5 + 1, none⟩ = some (.int .i64 kd)) (J := []) (by kernel_rfl) ?_ (fun AA => ?_)
   ·exact HCE.out
   try dsimp only at AA
   refine tj 0 15 AA ?_
   refine tj 1 16 AA ?_
   refine tj 2 17 AA ?_
   refine tj 3 18 AA ?_
   refine tj 4 19 AA ?_
   refine tj 5 20 AA ?_
   refine tj 6 21 AA ?_
   refine tj 7 22 AA ?_
   refine yJ (k := 8) (by kernel_rfl) rfl (fun K hK => ?_)
   (go_simp; refine (xk g 4 wr.drew hD.out.drew (by decide)).mono ?_; rintro e w1 ⟨r, rfl, hd1, hg1, hs1⟩; have HG1 := iD (qR hg1.out); go_simp)
   refine hK.out _ _ (fun _ => ?_) (fun AA' => ?_)
   ·exact ⟨(World.cell?_of_block (HG1.out.block w.heap.size hbl (fun e => by injection e with e; omega))).trans HCE.out.1, (World.cell?_of_block (HG1.out.block b hb (fun e => hbg (by injection e)))).trans HCE.out.2⟩
   replace AA := AA' rfl
   clear AA' hK K
   try dsimp only at AA
   try simp only [Act.put, sA, sB, sC]
   refine tj 9 24 AA ?_
   refine zA (by kernel_rfl) ?_ _
   clear AA
   have HO1 := iD (hO.out.kept HG1.out (zk fun q e => by have := (hO.out.lt q e).1; omega))
   have hz1 := hs1.out
   have HGW := iD (zM hG.out HG1.out)
   have hz2 := HGW.out.size
   rw [HW.out] at hz2
   clear hg1 hs1 hz1 HCE HC1 HKr HXr HG1 hO hD hG
   obtain ⟨bb, hbb⟩ : ∃ bb, bb = (!((kd == 4) == r)) := ⟨_, rfl⟩
   rw [← hbb]
   clear hbb
   rcases bb with _ | _
   ·go_wp2_with (at_builtin; go_must (refine zR rfl (.tmp 25) (.tmp 27) rfl xF (by rfl) (HO1.out.alloc _) (by rfl) (Sl.newest (n := 1) (by simp) (by rfl) (by decide)) (by simp [Value.oneCell']) (by omega) (by omega) (by simp; omega) ?_; intro A' cap' w3 hown3 hgr3 hat3; have HO3 := iD hown3; have HG3 := iD hgr3; clear hown3 hgr3 hat3))
    go_roundg (nd - (i + 1))
    case rel =>
     have hg3 := HG3.out
     have hr1 : ∀ k, (Value.slice A i c).ownBlock = some k → w.heap.size + 1 ≤ k := fun k e => (HO1.out.lt k e).1
     refine ⟨i + 1, cap', A', s ++ [2], rfl, by go_num, by omega, rfl, ?_, ?_, ?_, ?_⟩
     ·have := HO3.out
      unfold Hid zO
      rw [zq]
      exact this
     ·exact (hd1.out.alloc _).grown hg3 (fun k e => by have := hr1 k e; omega)
     ·exact vj (zM HGW.out (zL ((Below.refl _ _).alloc lR _) _)) hg3 (fun k e => by have := hr1 k e; have := HW.out; omega)
     ·intro p hp
      rcases List.mem_append.1 hp with h | h
      ·exact hP.out p h
      ·rw [List.mem_singleton.1 h]; decide
    case measure => omega
   ·go_wp2_with (at_builtin; go_must (refine zR rfl (.tmp 25) (.tmp 27) rfl xF (by rfl) (HO1.out.alloc _) (by rfl) (Sl.newest (n := 1) (by simp) (by rfl) (by decide)) (by simp [Value.oneCell']) (by omega) (by omega) (by simp; omega) ?_; intro A' cap' w3 hown3 hgr3 hat3; have HO3 := iD hown3; have HG3 := iD hgr3; clear hown3 hgr3 hat3))
    go_roundg (nd - (i + 1))
    case rel =>
     have hg3 := HG3.out
     have hr1 : ∀ k, (Value.slice A i c).ownBlock = some k → w.heap.size + 1 ≤ k := fun k e => (HO1.out.lt k e).1
     refine ⟨i + 1, cap', A', s ++ [1], rfl, by go_num, by omega, rfl, ?_, ?_, ?_, ?_⟩
     ·have := HO3.out
      unfold Hid zO
      rw [zq]
      exact this
     ·exact (hd1.out.alloc _).grown hg3 (fun k e => by have := hr1 k e; omega)
     ·exact vj (zM HGW.out (zL ((Below.refl _ _).alloc lR _) _)) hg3 (fun k e => by have := hr1 k e; have := HW.out; omega)
     ·intro p hp
      rcases List.mem_append.1 hp with h | h
      ·exact hP.out p h
      ·rw [List.mem_singleton.1 h]; decide
    case measure => omega
  ·obtain rfl : i = nd := by omega
   have hii : decide (i < i) = false := by simp
   go_wp2_with fail
   go_ret
   exact ⟨A, c, s, rfl, hD, zM HB0.out hG.out, hO, hP⟩
end
section
open Go.RowKit
def rI (ns : List Nd) (C : List Int) (v : Nat) (out : List Int) : Prop := out.length ≤ v ∧ ∀ x : Int, x ∈ out ↔ ∃ (k : Nat) (y : Nd), k < v ∧ x = k ∧ C.getD k 0 = 1 ∧ ns[k]? = some y ∧ 0 < y.cust
theorem rI.start (ns : List Nd) (C : List Int) : rI ns C 0 [] := ⟨Nat.le_refl _, fun x => ⟨(fun h => by cases h), (fun ⟨k, _, hk, _⟩ => by omega)⟩⟩
theorem rI.pass {ns : List Nd} {C out : List Int} {v : Nat} {y : Nd} (h : rI ns C v out) (hy : ns[v]? = some y) (hn : ¬ (C.getD v 0 = 1 ∧ 0 < y.cust)) : rI ns C (v + 1) out := by
 refine ⟨by have := h.1; omega, fun x => (h.2 x).trans ⟨?_, ?_⟩⟩
 ·rintro ⟨k, z, hk, r⟩; exact ⟨k, z, by omega, r⟩
 ·rintro ⟨k, z, hk, e, hc, hz, hu⟩
  rcases Nat.lt_succ_iff_lt_or_eq.1 hk with hk | rfl
  ·exact ⟨k, z, hk, e, hc, hz, hu⟩
  ·rw [hy] at hz; injection hz with hz; subst hz; exact absurd ⟨hc, hu⟩ hn
theorem rI.put {ns : List Nd} {C out : List Int} {v : Nat} {y : Nd} (h : rI ns C v out) (hy : ns[v]? = some y) (hc : C.getD v 0 = 1) (hu : 0 < y.cust) : rI ns C (v + 1) (out ++ [(v : Int)]) := by
 refine ⟨by have := h.1; simp; omega, fun x => ?_⟩
 rw [List.mem_append, h.2 x, List.mem_singleton]
 constructor
 ·rintro (⟨k, z, hk, r⟩ | rfl)
  ·exact ⟨k, z, by omega, r⟩
  ·exact ⟨v, y, by omega, rfl, hc, hy, hu⟩
 ·rintro ⟨k, z, hk, e, r⟩
  rcases Nat.lt_succ_iff_lt_or_eq.1 hk with hk | rfl
  ·exact .inl ⟨k, z, hk, e, r⟩
  ·exact .inr e
def SpR (w2 : World) (ns : List Nd) (C : List Int) (nn gk : Nat) (ov iv : Value) (wr : World) : Prop := ∃ (v m co : Nat) (Ao : Option Addr) (out : List Int), iv = .int .i64 v ∧ ov = .slice Ao m co ∧ v ≤ nn ∧ gk = nn - v ∧ Hid (zO wr w2.heap.size Ao m co out) ∧ Hid (Below w2.heap.size w2 wr) ∧ Hid (rI ns C v out)
def fR (ns : List Nd) (ds : List Dv) (s out : List Int) : Prop := out.length ≤ ns.length ∧ ∀ x : Int, x ∈ out ↔ ∃ (k : Nat) (y : Nd), x = k ∧ ns[k]? = some y ∧ 0 < y.cust ∧ Sup ds s k
end
section
open Go.RowKit
theorem lA (An Ad As : Option Addr) (nn cn nd cd n c Bn Bd Bs : Nat) (ns : List Nd) (ds : List Dv) (s : List Int) (w : World) (hn : Sl w Bn 3 An nn cn (ns.flatMap Nd.cells)) (hBn : Bn ≤ w.heap.size) (hd : Sl w Bd 5 Ad nd cd (ds.flatMap Dv.cells)) (hBd : Bd ≤ w.heap.size) (hs : Sl w Bs 1 As n c (zD s)) (hBs : Bs ≤ w.heap.size)
 (hnn : nn ≤ 10000) (hnd : nd ≤ 10000) (hl : nd ≤ n) (hends : yo nn ds) (hA : AOk nn ds) :
 Calls Tryz.prog 193 #[.agg #[.slice An nn cn, .slice Ad nd cd], .slice As n c] w fun e w' => ∃ Ao m co out, e = .returned (.slice Ao m co) ∧ Hid (zO w' w.heap.size Ao m co out) ∧ Hid (fR ns ds s out) ∧ Hid (Below w.heap.size w w') := by
 have HLN := iD (hn.len (fun _ => rfl) (by decide))
 have HCK := iD (xy An Ad As nn cn nd cd n c Bd Bs ds s (w.alloc (.cells #[.slice An nn cn, .slice Ad nd cd] 30)) (hd.alloc hBd _) (by simp; omega) (hs.alloc hBs _) (by simp; omega) hnn hnd hl hends hA)
 have HN := iD hn
 have hnle := hn.le
 clear hn hd hs hends hA
 go_enter Tryz.func193, Tryz.ntmps193
 go_upto_region 1 with (fail)
 have HB := iD (Blk.new w 30 #[.slice An nn cn, .slice Ad nd cd])
 have HW : Hid (Below w.heap.size w (w.alloc (.cells #[.slice An nn cn, .slice Ad nd cd] 30))) := (Below.refl _ _).alloc lR _
 generalize World.alloc _ _ = w1 at *
 obtain ⟨nb, hnb⟩ : ∃ nb, nb = w.heap.size := ⟨_, rfl⟩
 rw [← hnb] at HB ⊢
 have HNB := iD hnb
 clear hnb
 have k0 := HB.out.c0
 have k1 := HB.out.c1
 go_wp2_with fail
 clear k0 k1
 refine HCK.out.mono ?_
 rintro e w2 ⟨A1, A2, P, C, rfl, _, hOc, _, hIC, hb2⟩
 have HBX := iD (HB.out.below hb2.out HB.out.lt)
 have HBW := iD (HW.out.trans (hb2.out.mono HW.out.size))
 have HSC := iD hOc.out.sl
 have HSN := iD (HN.out.below HBW.out hBn)
 clear hOc HCK HB HW hb2 HN
 have k0 := HBX.out.c0
 go_wp2_with fail
 clear k0
 go_loopg [7, 19] nn (SpR w2 ns C nn)
 case atStart => exact ⟨0, 0, 0, none, [], rfl, rfl, Nat.zero_le _, rfl, World.ownsRow_nil _ _ _ _, Below.refl _ _, rI.start _ _⟩
 case round =>
  obtain ⟨v, m, co, Ao, out, rfl, rfl, hv, rfl, hO, hbl, hsp⟩ := hrel
  by_cases hlt : v < nn
  ·obtain ⟨b, off, cv, rfl, hb, hcv, hc⟩ := (HSC.out.below hbl.out lR).at1 hlt
   obtain ⟨b1, of1, z, rfl, hb1, hz, hcz⟩ := (HSN.out.below hbl.out (Nat.le_trans hBn HBW.out.size)).at (fun _ => rfl) (by decide) hlt
   have HZ := iD hz
   have HCV := iD (yS hcv)
   obtain ⟨nm2, cu, co2⟩ := z
   have c0 : wr.cell? ⟨b1, of1 + v * 3, none⟩ = some (.string nm2) := hcz 0 _ rfl
   have c1 : wr.cell? ⟨b1, of1 + v * 3 + 1, none⟩ = some (.int .i64 cu) := hcz 1 _ rfl
   have c2 : wr.cell? ⟨b1, of1 + v * 3 + 2, none⟩ = some (.int .i64 co2) := hcz 2 _ rfl
   have hbz : b < wr.heap.size := by have := hbl.out.size; omega
   have hne : b ≠ wr.heap.size := by omega
   have HBA : Hid (Below w2.heap.size w2 (wr.alloc (.cells #[.string nm2, .int .i64 cu, .int .i64 co2] 85))) := hbl.out.alloc hbl.out.size _
   have HOA : Hid (zO (wr.alloc (.cells #[.string nm2, .int .i64 cu, .int .i64 co2] 85)) w2.heap.size Ao m co out) := hO.out.alloc _
   clear hcz hz hcv
   by_cases hcu : 0 < cu; rotate_left
   ·have qc : decide (0 < cu) = false := by simpa using hcu
    have HS1 := iD (hsp.out.pass HZ.out (fun h => hcu h.2))
    clear hcu
    go_wp2_with fail
    go_roundg (nn - (v + 1))
    case rel => exact ⟨v + 1, m, co, Ao, out, by go_num, rfl, by omega, rfl, HOA, HBA, HS1⟩
    case measure => omega
   ·have qc : decide (0 < cu) = true := by simpa using hcu
    by_cases h1 : cv = 1; rotate_left
    ·have q : (cv == 1) = false := by simpa using h1
     have HS1 := iD (hsp.out.pass HZ.out (fun h => h1 (by have := h.1; rw [HCV.out] at this; exact this)))
     clear h1 hcu
     go_wp2_with fail
     go_roundg (nn - (v + 1))
     case rel => exact ⟨v + 1, m, co, Ao, out, by go_num, rfl, by omega, rfl, HOA, HBA, HS1⟩
     case measure => omega
    ·have q : (cv == 1) = true := by simpa using h1
     have HS1 := iD (hsp.out.put HZ.out (by rw [HCV.out]; exact h1) hcu)
     have hml : m ≤ nn := by have := hsp.out.1; rw [hO.out.len] at this; omega
     have hzz := HBA.out.size
     clear h1 hcu
     go_upto_region 7 with (fail)
     generalize World.alloc wr _ = wq at *
     clear c0 c1 c2 hc
     go_wp2_with (at_builtin; go_must (refine zR rfl (.tmp 34) (.tmp 36) rfl xF (by rfl) (HOA.out.alloc _) (by rfl) (Sl.newest (n := 1) (by simp) (by rfl) (by decide)) (by simp [Value.oneCell']) (by omega) (by omega) (by simp; omega) ?_; intro A' cap' w3 hown3 hgr3 hat3; have HO3 := iD hown3; have HG3 := iD hgr3; clear hown3 hgr3 hat3))
     go_roundg (nn - (v + 1))
     case rel =>
      refine ⟨v + 1, m + 1, cap', A', out ++ [(v : Int)], by go_num, rfl, by omega, rfl, ?_, ?_, HS1⟩
      ·have := HO3.out
       unfold Hid zO
       rw [zq]
       exact this
      ·refine (HBA.out.alloc HBA.out.size _).trans ⟨HG3.out.os, HG3.out.tape, HG3.out.output, HG3.out.size, fun i hi => HG3.out.block i (by simp; omega) (fun e => ?_)⟩
       have := (HOA.out.lt i e.symm).1
       omega
     case measure => omega
  ·obtain rfl : v = nn := by omega
   have hii : decide (v < v) = false := by simp
   go_wp2_with fail
   go_ret
   refine ⟨Ao, m, co, out, rfl, hO.out.mono HBW.out.size, ⟨by rw [HLN.out]; exact hsp.out.1, fun x => (hsp.out.2 x).trans ?_⟩, HBW.out.trans (hbl.out.mono HBW.out.size)⟩
   have col : ∀ k : Nat, k < v → (C.getD k 0 = 1 ↔ Sup ds s k) := fun k hk => by rw [yS (hIC.out.2 k hk)]; exact iC
   constructor
   ·rintro ⟨k, y, hk, e, hc, hy, hu⟩; exact ⟨k, y, e, hy, hu, (col k hk).1 hc⟩
   ·rintro ⟨k, y, e, hy, hu, hc⟩
    have hk : k < v := by have := (List.getElem?_eq_some_iff.1 hy).1; rw [HLN.out] at this; exact this
    exact ⟨k, y, hk, e, (col k hk).2 hc, hy, hu⟩
theorem tX (An Ad As : Option Addr) (nn cn nd cd n c Bn Bd Bs : Nat) (ns : List Nd) (ds : List Dv) (s : List Int) (w : World) (hL : Laid w) (hn : Sl w Bn 3 An nn cn (ns.flatMap Nd.cells)) (hBn : Bn ≤ w.heap.size) (hd : Sl w Bd 5 Ad nd cd (ds.flatMap Dv.cells)) (hBd : Bd ≤ w.heap.size) (hs : Sl w Bs 1 As n c (zD s)) (hBs : Bs ≤ w.heap.size)
 (hsn : ∀ x ∈ ns, x.name.size ≤ 9223372036854775807) (hsd : ∀ x ∈ ds, x.name.size ≤ 9223372036854775807) (h0 : zN ns ds s = 0) (hnn : nn ≤ 10000) (hnd : nd ≤ 10000) (hl : nd ≤ n) (hends : yo nn ds) (hA : AOk nn ds) :
 Calls Tryz.prog 176 #[.agg #[.slice An nn cn, .slice Ad nd cd], .slice As n c] w fun e w' => ∃ Ao m co out, e = .returned (.tuple #[.slice Ao m co, .int .i64 0]) ∧ Hid (zO w' w.heap.size Ao m co out) ∧ Hid (fR ns ds s out) ∧ Hid (Below w.heap.size w w') := by
 have HB : Hid (Below w.heap.size w (w.alloc (.cells #[.slice An nn cn, .slice Ad nd cd] 30))) := (Below.refl _ _).alloc lR _
 have HK := iD (Blk.new w 30 #[.slice An nn cn, .slice Ad nd cd])
 have HL := iD hL; have HN := iD hn; have HD := iD hd; have HS := iD hs; have HSN := iD hsn; have HSD := iD hsd; have H0 := iD h0; have HE := iD hends; have HA := iD hA
 clear hL hn hd hs hsn hsd h0 hends hA
 go_enter Tryz.func176, Tryz.ntmps176
 go_wp2_with fail
 generalize World.alloc _ _ = W at *
 have hz := HB.out.size
 have HC := iD (wm An Ad As nn cn nd cd n c Bn Bd Bs ns ds s W (HL.out.below HB.out lR) (HN.out.below HB.out hBn) (HD.out.below HB.out hBd) (HS.out.below HB.out hBs) (by omega) (by omega) (by omega) HSN.out HSD.out)
 rw [H0.out] at HC
 refine HC.out.mono ?_
 rintro e w1 ⟨rfl, hb1⟩
 have HB1 := iD (HB.out.trans (hb1.mono hz))
 have HK1 := iD (HK.out.below hb1 HK.out.lt)
 have hz1 := HB1.out.size
 clear hb1 HC HB HK hz
 have k0 := HK1.out.c0
 have k1 := HK1.out.c1
 go_wp2_with fail
 clear k0 k1
 refine (lA An Ad As nn cn nd cd n c Bn Bd Bs ns ds s w1 (HN.out.below HB1.out hBn) (by omega) (HD.out.below HB1.out hBd) (by omega) (HS.out.below HB1.out hBs) (by omega) hnn hnd hl HE.out HA.out).mono ?_
 rintro e w2 ⟨Ao, m, co, out, rfl, hO, hSL, hb2⟩
 go_wp2_with fail
 go_ret2
 exact ⟨Ao, m, co, out, rfl, hO.out.mono hz1, hSL, HB1.out.trans (hb2.out.mono hz1)⟩
def CuR (W : World) (m gk : Nat) (sv iv : Value) (wr : World) : Prop := ∃ (i : Nat) (k : Int), iv = .int .i64 i ∧ sv = .int .i64 k ∧ i ≤ m ∧ gk = m - i ∧ Hid (Below W.heap.size W wr)
theorem ld (An Ad A : Option Addr) (nn cn nd cd m c Bn B : Nat) (ns : List Nd) (l : List Int) (w : World) (hn : Sl w Bn 3 An nn cn (ns.flatMap Nd.cells)) (hBn : Bn ≤ w.heap.size) (hs : Sl w B 1 A m c (zD l)) (hB : B ≤ w.heap.size) (hl : ∀ v ∈ l, 0 ≤ v ∧ v < nn) :
 Calls Tryz.prog 179 #[.agg #[.slice An nn cn, .slice Ad nd cd], .slice A m c] w fun e w' => ∃ k : Int, e = .returned (.int .i64 k) ∧ Hid (Below w.heap.size w w') := by
 have HB0 : Hid (Below w.heap.size w (w.alloc (.cells #[.slice An nn cn, .slice Ad nd cd] 30))) := (Below.refl _ _).alloc lR _
 have HK := iD (Blk.new w 30 #[.slice An nn cn, .slice Ad nd cd])
 have HN := iD hn; have HS := iD hs; have HI := iD hl
 have hnle := hn.le; have hsle := hs.le
 clear hn hs hl
 go_enter Tryz.func179, Tryz.ntmps179
 go_wp2_with fail
 generalize World.alloc _ _ = W at *
 go_loopg [5, 10] m (CuR W m)
 case atStart => exact ⟨0, 0, rfl, rfl, Nat.zero_le _, rfl, Below.refl _ _⟩
 case round =>
  obtain ⟨i, k, rfl, rfl, hi, rfl, hbl⟩ := hrel
  have HB1 := iD (HB0.out.trans (hbl.out.mono HB0.out.size))
  by_cases hlt : i < m
  ·obtain ⟨b, off, v, rfl, hb, hv, hc⟩ := (HS.out.below HB1.out hB).at1 hlt
   obtain ⟨hv0, hv1⟩ := HI.out v (List.mem_of_getElem? hv)
   obtain ⟨t, rfl⟩ := Int.eq_ofNat_of_zero_le hv0
   have htn : t < nn := by omega
   obtain ⟨b1, of1, z, rfl, hb1, hz, hcz⟩ := (HN.out.below HB1.out hBn).at (fun _ => rfl) (by decide) htn
   obtain ⟨nm2, cu, co2⟩ := z
   have c1 : wr.cell? ⟨b1, of1 + t * 3 + 1, none⟩ = some (.int .i64 cu) := hcz 1 _ rfl
   have k0 := (HK.out.below hbl.out HK.out.lt).c0
   clear hcz hz hv
   go_wp2_with fail
   go_roundg (m - (i + 1))
   case rel => exact ⟨i + 1, _, by go_num, rfl, by omega, rfl, hbl⟩
   case measure => omega
  ·obtain rfl : i = m := by omega
   have hii : decide (i < i) = false := by simp
   go_wp2_with fail
   go_ret
   exact ⟨k, rfl, HB1⟩
end
section
open Go.RowKit
def oK (a b : List Int) (i : Nat) (out : List Int) : Prop := out.length ≤ i ∧ ∀ x : Int, x ∈ out ↔ x ∈ a.take i ∧ x ∉ b
theorem oK.start (a b : List Int) : oK a b 0 [] := ⟨Nat.le_refl _, fun x => by simp⟩
theorem oK.pass {a b out : List Int} {i : Nat} {x : Int} (h : oK a b i out) (hx : a[i]? = some x) (hm : x ∈ b) : oK a b (i + 1) out := by
 refine ⟨by have := h.1; omega, fun y => (h.2 y).trans ?_⟩
 rw [zQ hx, List.mem_append, List.mem_singleton]
 exact ⟨fun k => ⟨.inl k.1, k.2⟩, fun k => ⟨k.1.elim id (fun e => by subst e; exact absurd hm k.2), k.2⟩⟩
theorem oK.put {a b out : List Int} {i : Nat} {x : Int} (h : oK a b i out) (hx : a[i]? = some x) (hm : x ∉ b) : oK a b (i + 1) (out ++ [x]) := by
 refine ⟨by have := h.1; simp; omega, fun y => ?_⟩
 rw [zQ hx, List.mem_append, List.mem_singleton, List.mem_append, List.mem_singleton, h.2 y]
 exact ⟨fun k => k.elim (fun k => ⟨.inl k.1, k.2⟩) (fun e => by subst e; exact ⟨.inr rfl, hm⟩), fun k => k.1.elim (fun k1 => .inl ⟨k1, k.2⟩) .inr⟩
def gL (ns : List Nd) (ds : List Dv) (s s2 out : List Int) : Prop := ∀ x : Int, x ∈ out ↔ ∃ (k : Nat) (y : Nd), x = k ∧ ns[k]? = some y ∧ 0 < y.cust ∧ Sup ds s k ∧ ¬ Sup ds s2 k
end
section
open Go.RowKit
def zK (ns : List Nd) (ds : List Dv) (ls : List Lk) : Int := if za ns ds ≠ 0 then za ns ds else if 128 < ls.length then 1 else yV ds ls ls.length
theorem lO {ds : List Dv} {x : Dv} {i : Nat} (h : ds[i]? = some x) : qO ds (i : Int) = x.kind := by unfold qO; rw [Int.toNat_natCast, h]
def iQ (ls : List Lk) (d : Int) : Ending := .returned (.tuple #[.int .i64 ((vE ls d).getD 0), .bool (vE ls d).isSome])
theorem jJ {ls : List Lk} {d : Int} : ∀ {i : Nat}, (∀ x ∈ ls.take i, x.dev ≠ d) → vE ls d = vE (ls.drop i) d := by
 intro i
 induction i generalizing ls with
 | zero => intro _; rfl
 | succ i ih =>
  intro h
  cases ls with
  | nil => rfl
  | cons x l =>
   rw [vE, if_neg (h x (by simp)), List.drop_succ_cons]
   exact ih fun y hy => h y (by simp [hy])
theorem iP {ls : List Lk} {d : Int} {i : Nat} {x : Lk} (h : ∀ x ∈ ls.take i, x.dev ≠ d) (hx : ls[i]? = some x) (hd : x.dev = d) : vE ls d = some x.pos := by
 rw [jJ h]
 have hi := (List.getElem?_eq_some_iff.1 hx).1
 rw [List.drop_eq_getElem_cons hi, vE]
 have : ls[i] = x := by have := List.getElem?_eq_some_iff.1 hx; exact this.2
 rw [this, if_pos hd]
end
section
open Go.RowKit
section
variable {w : World} {B size n c k : Nat} {A : Option Addr} {α : Type} {f : α → List Value} {l : List α}
theorem Sl.takeK (h : Sl w B size A n c (l.flatMap f)) (hf : ∀ x, (f x).length = size) (hs : 0 < size) (hk : k ≤ n) : Sl w B size A k c ((l.take k).flatMap f) := by
 have hl := h.len hf hs
 obtain ⟨h1, h2, h3, h4, h5⟩ := h
 refine ⟨by rw [yK hf, List.length_take, Nat.min_eq_left (by omega)], by omega, h3, h4, fun hp => ?_⟩
 obtain ⟨b, off, e, hb, hc⟩ := h5 (by omega)
 refine ⟨b, off, e, hb, fun j u hu => hc j u ?_⟩
 rw [← List.take_append_drop k l, List.flatMap_append, List.getElem?_append_left (List.getElem?_eq_some_iff.1 hu).1]
 exact hu
def nN (A : Option Addr) (c k size : Nat) : Option Addr := if c = k then A else A.map (·.add (k * size))
theorem Sl.dropK (h : Sl w B size A n c (l.flatMap f)) (hf : ∀ x, (f x).length = size) (hs : 0 < size) (hk : k ≤ n) : Sl w B size (nN A c k size) (n - k) (c - k) ((l.drop k).flatMap f) := by
 have hl := h.len hf hs
 obtain ⟨h1, h2, h3, h4, h5⟩ := h
 refine ⟨by rw [yK hf, List.length_drop, hl], by omega, by omega, fun e => ?_, fun hp => ?_⟩
 ·unfold nN at e
  split at e
  ·omega
  ·cases A with
   | none => have := h4 rfl; omega
   | some a => cases e
 ·obtain ⟨b, off, e, hb, hc⟩ := h5 (by omega)
  subst e
  refine ⟨b, off + k * size, by unfold nN; rw [if_neg (by omega), Option.map_some, xC], hb, fun j u hu => ?_⟩
  have := hc (k * size + j) u (by
   rw [← List.take_append_drop k l, List.flatMap_append, List.getElem?_append_right (by rw [yK hf, List.length_take, Nat.min_eq_left (by omega)]; omega), yK hf, List.length_take, Nat.min_eq_left (by omega), show k * size + j - k * size = j by omega]
   exact hu)
  rw [Nat.add_assoc]; exact this
end
theorem pI (w : World) (A : Option Addr) (n c k : Nat) (hk : k ≤ n) : (Instr.sliceAt 35 (.slice A n c) (some (.int .i64 (k : Int))) none none).run Tryz.prog w = .ok (.slice (nN A c k 3) (n - k) (c - k)) w := by
 rw [run_sliceAt_slice _ _ _ _ _ _ (by kernel_rfl), run_slice_l _ _ _ _ _ (by kernel_rfl) _ _ (by omega) (by omega)]
 have : (sizeOf (Tryz.prog.elem 35)).run Tryz.prog w = .ok 3 w := by kernel_rfl
 rw [this]
 simp [sliced, nN, Result.andThen]
end
section
open Go.RowKit
def oH (g : Nat) (lb : Array Value) (p : Lk → Bool) (w : World) : Prop :=
 ∀ (W : World) (d q r : Int), Below w.heap.size w W → Calls Tryz.prog g (#[.agg #[.int .i64 d, .int .i64 q, .int .i64 r]] ++ lb) W fun e w' => e = .returned (.bool (p ⟨d, q, r⟩)) ∧ Below w.heap.size w w'
def IfR (w : World) (ls : List Lk) (p : Lk → Bool) (n gk : Nat) (_kv iv : Value) (wr : World) : Prop := ∃ i : Nat, iv = .int .i64 i ∧ i ≤ n ∧ gk = n - i ∧ Hid (∀ x ∈ ls.take i, p x = false) ∧ Hid (Below w.heap.size w wr)
theorem jR (g : Nat) (lb : Array Value) (p : Lk → Bool) (eg : ∀ args w, (callFunc g args).run Tryz.prog w = .ok (.enter g args) w) (A : Option Addr) (n c B : Nat) (ls : List Lk) (w : World) (hs : Sl w B 3 A n c (ls.flatMap Lk.cells)) (hB : B ≤ w.heap.size) (hp : oH g lb p w) :
 Calls Tryz.prog 173 #[.slice A n c, .func (.func g) #[] lb] w fun e w' => (∃ i : Int, e = .returned (.int .i64 i) ∧ Hid (decide (0 ≤ i) = ls.any p)) ∧ Below w.heap.size w w' := by
 have HLN := iD (hs.len (fun _ => rfl) (by decide)); have HS := iD hs
 have hle := hs.le
 have HP := iD hp
 clear hs hp
 go_enter Tryz.func173, Tryz.ntmps173
 go_wp2_with fail
 go_loopg [5, 8] n (IfR w ls p n)
 case atStart => exact ⟨0, rfl, Nat.zero_le _, rfl, (fun x hx => by simp at hx), Below.refl _ _⟩
 case round =>
  obtain ⟨i, rfl, hi, rfl, hno, hbl⟩ := hrel
  by_cases hlt : i < n
  ·obtain ⟨b, off, d1, p1, q1, rfl, hb, hx, c0, c1, c2⟩ := (HS.out.below hbl.out hB).lock hlt
   have HX := iD hx
   have hcall := HP.out wr d1 p1 q1 hbl.out
   clear hx
   rcases hq : p ⟨d1, p1, q1⟩ with _ | _
   ·rw [hq] at hcall
    have HN : Hid (∀ x ∈ ls.take (i + 1), p x = false) := fun x hx => by
     rw [zQ HX.out] at hx
     rcases List.mem_append.1 hx with h | h
     ·exact hno.out x h
     ·rw [List.mem_singleton.1 h]; exact hq
    clear hq
    go_wp2_with (go_at_fn g; refine hcall.mono ?_; rintro e w' ⟨rfl, hb'⟩)
    go_roundg (n - (i + 1))
    case rel => exact ⟨i + 1, by go_num, by omega, rfl, HN, hb'⟩
    case measure => omega
   ·rw [hq] at hcall
    have HR : Hid (decide (0 ≤ (i : Int)) = ls.any p) := by
     unfold Hid
     rw [decide_eq_true (by omega)]
     symm
     rw [List.any_eq_true]
     exact ⟨_, List.mem_of_getElem? HX.out, hq⟩
    clear hq
    go_wp2_with (go_at_fn g; refine hcall.mono ?_; rintro e w' ⟨rfl, hb'⟩)
    go_ret
    exact ⟨⟨_, rfl, HR⟩, hb'⟩
  ·obtain rfl : i = n := by omega
   have hii : decide (i < i) = false := by simp
   have HR : Hid (decide (0 ≤ (-1 : Int)) = ls.any p) := by
    have := hno.out
    rw [List.take_of_length_le (by rw [HLN.out]; exact Nat.le_refl _)] at this
    unfold Hid
    rw [decide_eq_false (by omega)]
    symm
    rw [List.any_eq_false]
    intro x hx
    rw [this x hx]; simp
   go_wp2_with fail
   go_ret
   exact ⟨⟨_, rfl, HR⟩, hbl.out⟩
theorem tD (g : Nat) (lb : Array Value) (p : Lk → Bool) (eg : ∀ args w, (callFunc g args).run Tryz.prog w = .ok (.enter g args) w) (A : Option Addr) (n c B : Nat) (ls : List Lk) (w : World) (hs : Sl w B 3 A n c (ls.flatMap Lk.cells)) (hB : B ≤ w.heap.size) (hp : oH g lb p w) :
 Calls Tryz.prog 145 #[.slice A n c, .func (.func g) #[] lb] w fun e w' => e = .returned (.bool (ls.any p)) ∧ Below w.heap.size w w' := by
 have HI := iD (jR g lb p eg A n c B ls w hs hB hp)
 clear hs hp
 go_enter Tryz.func145, Tryz.ntmps145
 go_wp2_with fail
 refine HI.out.mono ?_
 rintro e w1 ⟨⟨i, rfl, hi⟩, hb⟩
 go_wp2_with fail
 go_ret
 exact ⟨zG hi.out, hb⟩
end
section
open Go.RowKit
def zj (p : Int) : Bool := decide (1 ≤ p) && decide (p ≤ 3)
def MdR (w : World) (m : List Int) (n gk : Nat) (iv : Value) (wr : World) : Prop := ∃ i : Nat, iv = .int .i64 i ∧ i ≤ n ∧ gk = n - i ∧ Hid (∀ p ∈ m.take i, zj p = true) ∧ Hid (Below w.heap.size w wr)
theorem sN (A : Option Addr) (n c B : Nat) (m : List Int) (w : World) (hs : Sl w B 1 A n c (zD m)) (hB : B ≤ w.heap.size) : Calls Tryz.prog 50 #[.slice A n c] w fun e w' => e = .returned (.bool (m.all zj)) ∧ Below w.heap.size w w' := by
 have HLM := iD (hs.len (fun _ => rfl) (by decide)); have HS := iD hs
 have hle := hs.le
 clear hs
 go_enter Tryz.func50, Tryz.ntmps50
 go_wp2_with fail
 go_loopg [3] n (MdR w m n)
 case atStart => exact ⟨0, rfl, Nat.zero_le _, rfl, (by unfold Hid; simp), Below.refl _ _⟩
 case round =>
  obtain ⟨i, rfl, hi, rfl, hok, hbl⟩ := hrel
  by_cases hlt : i < n
  ·obtain ⟨b, off, x, rfl, hb, hx, hc⟩ := (HS.out.below hbl.out hB).at1 hlt
   have HX := iD hx
   clear hx
   by_cases h1 : x < 1
   ·have q : decide (x < 1) = true := by simpa using h1
    have HR : Hid (m.all zj = false) := by
     unfold Hid
     rw [List.all_eq_false]
     exact ⟨x, List.mem_of_getElem? HX.out, by simp [zj]; omega⟩
    clear h1
    go_wp2_with fail
    go_ret
    exact ⟨zG HR.out.symm, hbl.out⟩
   ·have q : decide (x < 1) = false := by simpa using h1
    by_cases h2 : 3 < x
    ·have q2 : decide (3 < x) = true := by simpa using h2
     have HR : Hid (m.all zj = false) := by
      unfold Hid
      rw [List.all_eq_false]
      exact ⟨x, List.mem_of_getElem? HX.out, by simp [zj]; omega⟩
     clear h1 h2
     go_wp2_with fail
     go_ret
     exact ⟨zG HR.out.symm, hbl.out⟩
    ·have q2 : decide (3 < x) = false := by simpa using h2
     have HR : Hid (∀ p ∈ m.take (i + 1), zj p = true) := by
      intro p hp
      rw [zQ HX.out] at hp
      rcases List.mem_append.1 hp with h | h
      ·exact hok.out p h
      ·rw [List.mem_singleton.1 h]; simp [zj]; omega
     clear h1 h2
     go_wp2_with fail
     go_roundg (n - (i + 1))
     case rel => exact ⟨i + 1, by go_num, by omega, rfl, HR, hbl⟩
     case measure => omega
  ·obtain rfl : i = n := by omega
   have hii : decide (i < i) = false := by simp
   have HR : Hid (m.all zj = true) := by
    unfold Hid
    have := hok.out
    rw [List.take_of_length_le (by rw [HLM.out]; exact Nat.le_refl _)] at this
    exact List.all_eq_true.2 this
   go_wp2_with fail
   go_ret
   exact ⟨zG HR.out.symm, hbl.out⟩
end
end Go.Proofs.YtkkobemhbicjgaaGreatDoor
