import Derived.Test.YtnpfkiidhidjbaaGreatDoorZ30
/-
 The program's layer 13: walk of May.
-/
namespace Go.Proofs.YtnpfkiidhidjbaaGreatDoor
open Go.RowKit
section
variable {P : Program} {ops : Array Oper} {A : Act} {L : List (Nat × Value)} {n : Nat} {oi : Oper}
/-- A guard that an operation was to yield that was not wanted itself. -/
theorem wanted_und {j dj : Nat} {oj : Oper} {b : Bool} (hg : oi.guard = some (j, b)) (hn : A.tmps.size = n) (hj : ops[j]? = some oj) (hd : oj.dst = some dj) (hdn : Nat.blt dj n = true) (hv : lkp L dj (A.eval (.tmp dj)) = undef) : Region.wanted oi (yielded ops (puts A L).tmps) = false := by
 have hlt : dj < A.tmps.size := by rw [hn]; simpa [Nat.blt_eq] using hdn
 have he := eval_puts A dj hlt L
 rw [hv] at he
 have hlt' : dj < (puts A L).tmps.size := by rw [puts_size]; exact hlt
 have hy : yielded ops (puts A L).tmps j = none := by
  unfold yielded
  rw [hj]
  simp only [Option.bind_some, hd]
  simp only [Act.eval, Array.getD_eq_getD_getElem?, Array.getElem?_eq_getElem hlt', Option.getD_some] at he
  rw [Array.getElem?_eq_getElem hlt', he]
  rfl
 unfold Region.wanted; rw [hg]; simp only [hy]; rfl
end
def MyIn (hz : List Int → List Int) (g : Int → Prop) (rows : List (List Int)) (k : Nat) (out : List Int) : Prop := out.length ≤ 7 * k ∧ out.Nodup ∧ ∀ h : Int, h ∈ out ↔ ∃ s ∈ rows.take k, h ∈ hz s ∧ g h
def MyIn2 (hz : List Int → List Int) (g : Int → Prop) (rows : List (List Int)) (k : Nat) (s : List Int) (j : Nat) (out : List Int) : Prop := out.length ≤ 7 * k + j ∧ out.Nodup ∧ ∀ h : Int, h ∈ out ↔ (∃ s ∈ rows.take k, h ∈ hz s ∧ g h) ∨ h ∈ (hz s).take j ∧ g h
section
variable {hz : List Int → List Int} {g : Int → Prop} {rows : List (List Int)} {k j : Nat} {s out : List Int} {x : Int}
theorem MyIn.start : MyIn hz g rows 0 [] := ⟨by simp, List.nodup_nil, fun h => by simp⟩
theorem MyIn.two (h : MyIn hz g rows k out) : MyIn2 hz g rows k s 0 out := ⟨by have := h.1; omega, h.2.1, fun y => by rw [h.2.2 y]; simp⟩
theorem MyIn2.pass (h : MyIn2 hz g rows k s j out) (hx : (hz s)[j]? = some x) (hm : x ∈ out ∨ ¬ g x) : MyIn2 hz g rows k s (j + 1) out := by
 refine ⟨by have := h.1; omega, h.2.1, fun y => ?_⟩
 rw [take_snoc hx, List.mem_append, List.mem_singleton]
 constructor
 ·intro hy
  rcases (h.2.2 y).1 hy with h1 | h1
  ·exact .inl h1
  ·exact .inr ⟨.inl h1.1, h1.2⟩
 ·rintro (h1 | ⟨h1 | h1, h2⟩)
  ·exact (h.2.2 y).2 (.inl h1)
  ·exact (h.2.2 y).2 (.inr ⟨h1, h2⟩)
  ·subst h1
   rcases hm with hm | hm
   ·exact hm
   ·exact absurd h2 hm
theorem MyIn2.put (h : MyIn2 hz g rows k s j out) (hx : (hz s)[j]? = some x) (hm : x ∉ out) (hg : g x) : MyIn2 hz g rows k s (j + 1) (out ++ [x]) := by
 refine ⟨by have := h.1; rw [List.length_append, List.length_singleton]; omega, ?_, fun y => ?_⟩
 ·rw [List.nodup_append]
  exact ⟨h.2.1, by simp, fun a ha b hb e => hm (by rw [List.mem_singleton.1 hb] at e; rw [← e]; exact ha)⟩
 ·rw [take_snoc hx, List.mem_append, List.mem_append, List.mem_singleton, h.2.2 y]
  constructor
  ·rintro ((h1 | h1) | rfl)
   ·exact .inl h1
   ·exact .inr ⟨.inl h1.1, h1.2⟩
   ·exact .inr ⟨.inr rfl, hg⟩
  ·rintro (h1 | ⟨h1 | h1, h2⟩)
   ·exact .inl (.inl h1)
   ·exact .inl (.inr ⟨h1, h2⟩)
   ·exact .inr h1
theorem MyIn2.done (h : MyIn2 hz g rows k s j out) (hj : (hz s).length = j) (h7 : j ≤ 7) (hs : rows[k]? = some s) : MyIn hz g rows (k + 1) out := by
 refine ⟨by have := h.1; omega, h.2.1, fun y => ?_⟩
 rw [h.2.2 y, show (hz s).take j = hz s from List.take_of_length_le (by omega), take_snoc hs]
 constructor
 ·rintro (⟨t, ht, h1⟩ | h1)
  ·exact ⟨t, List.mem_append_left _ ht, h1⟩
  ·exact ⟨s, by simp, h1⟩
 ·rintro ⟨t, ht, h1⟩
  rcases List.mem_append.1 ht with h2 | h2
  ·exact .inl ⟨t, h2, h1⟩
  ·rw [List.mem_singleton.1 h2] at h1; exact .inr h1
end
def MyR1 (w1 : World) (F : Nat → List Int → Prop) (n gk : Nat) (ov iv : Value) (wr : World) : Prop := ∃ (k mo co : Nat) (Ao : Option Addr) (out : List Int), iv = .int .i64 k ∧ ov = .slice Ao mo co ∧ k ≤ n ∧ gk = n - k ∧ Hid (IntsO wr w1.heap.size Ao mo co out) ∧ Hid (Below w1.heap.size w1 wr) ∧ Hid (F k out)
def MyR2 (w1 : World) (B4 Bk : Nat) (AH : Option Addr) (q cH : Nat) (H : List Int) (F : Nat → List Int → Prop) (gk : Nat) (ov iv : Value) (wr : World) : Prop := ∃ (j mo co : Nat) (Ao : Option Addr) (out : List Int), iv = .int .i64 j ∧ ov = .slice Ao mo co ∧ j ≤ q ∧ gk = q - j ∧ Hid (IntsO wr w1.heap.size Ao mo co out) ∧ Hid (IntsO wr Bk AH q cH H) ∧ Hid (Below w1.heap.size w1 wr) ∧ Hid (∀ g, (Value.slice Ao mo co).ownBlock = some g → g < Bk ∨ B4 ≤ g) ∧ Hid (B4 ≤ wr.heap.size) ∧ Hid (F j out)
theorem own_apart {A1 A2 : Option Addr} {n1 c1 n2 c2 B4 Bk : Nat} (h1 : ∀ g, (Value.slice A1 n1 c1).ownBlock = some g → g < Bk ∨ B4 ≤ g) (h2 : ∀ g, (Value.slice A2 n2 c2).ownBlock = some g → Bk ≤ g ∧ g < B4) : (Value.slice A2 n2 c2).ownBlock = none ∨ (Value.slice A2 n2 c2).ownBlock ≠ (Value.slice A1 n1 c1).ownBlock := by
 cases h : (Value.slice A2 n2 c2).ownBlock with
 | none => exact .inl rfl
 | some g =>
  refine .inr fun e => ?_
  have := h1 g e.symm
  have := h2 g h
  omega
/-- What May returns. -/
def MayL (ns : List Nd) (ds : List Dv) (m : List Int) (d p co : Int) (ls : List Lk) (pr : List Int) (x : Dv) (out : List Int) : Prop := SetL (MayP ns.length ns ds (allOf m) (m.getD d.toNat 0) d.toNat p co ls pr x) out
def MayPost (w : World) (ns : List Nd) (ds : List Dv) (m : List Int) (d p co : Int) (ls : List Lk) (pr : List Int) (e : Ending) (w' : World) : Prop :=
 (stsErr ns ds m d p co ≠ 0 ∧ e = .returned (.tuple #[.slice none 0 0, .int .i64 (stsErr ns ds m d p co)]) ∨ stsErr ns ds m d p co = 0 ∧ ∃ (A : Option Addr) (k c : Nat) (x : Dv) (out : List Int), ds[d.toNat]? = some x ∧ e = .returned (.tuple #[.slice A k c, .int .i64 0]) ∧ Hid (IntsO w' w.heap.size A k c out) ∧ Hid (MayL ns ds m d p co ls pr x out)) ∧ Hid (Below w.heap.size w w')
theorem stsErr_ok {ns : List Nd} {ds : List Dv} {m : List Int} {d p co : Int} (h : stsErr ns ds m d p co = 0) : maskErr ns ds m = 0 ∧ hzErr ds.length d p co = 0 ∧ cErr m = 0 := by
 unfold stsErr at h
 split at h
 ·next h1 =>
  split at h
  ·next h2 => exact ⟨h1, h2, h⟩
  ·next h2 => exact absurd h h2
 ·next h1 => exact absurd h h1
/-- The states that agree are valid. -/
theorem state_of_mask {ns : List Nd} {ds : List Dv} {m s : List Int} (h : maskErr ns ds m = 0) (hs : s ∈ allOf m) : stateErr ns ds s = 0 := by
 obtain ⟨h1, h2, h3⟩ := maskErr_net h
 obtain ⟨h4, h5⟩ := (mem_allN m m.length s).1 hs
 unfold stateErr
 rw [if_neg (by simp [h1]), if_neg (by omega), if_pos]
 intro p hp
 obtain ⟨i, hi, rfl⟩ := List.getElem_of_mem hp
 have hs' : s[i]? = some s[i] := List.getElem?_eq_getElem hi
 have him : i < m.length := by omega
 obtain ⟨h6, h7⟩ := h5 i him
 by_cases h8 : m[i]? = some 3
 ·rcases h6 h8 with h9 | h9 <;> rw [hs'] at h9 <;> injection h9 with h9 <;> rw [h9] <;> rfl
 ·have h9 := h7 h8
  rw [hs'] at h9
  injection h9 with h9
  have h10 := h3 (m[i]'him) (List.getElem_mem him)
  rw [List.getElem?_eq_getElem him] at h8
  have h11 : m.getD i 0 = m[i]'him := by rw [List.getD_eq_getElem?_getD, List.getElem?_eq_getElem him]; rfl
  rw [h11] at h9
  rw [h9]
  have h12 : m[i]'him ≠ 3 := fun e => h8 (by rw [e])
  simp [maskB, posB] at h10 ⊢
  omega
theorem allOf_len {m : List Int} (h : cErr m = 0) : (allOf m).length ≤ 256 := by
 unfold cErr at h
 split at h
 ·split at h
  ·cases h
  ·next h1 =>
   unfold allOf
   rw [allN_len]
   exact Nat.le_trans (Nat.pow_le_pow_right (n := 2) (by decide) (show _ ≤ 8 by omega)) (by decide)
 ·cases h
set_option maxRecDepth 100000 in
set_option maxHeartbeats 8000000 in
theorem May_any (An Ad As Al Ap : Option Addr) (nn cn nd cd n c nl cl np cp : Nat) (ns : List Nd) (ds : List Dv) (m : List Int) (ls : List Lk) (pr : List Int) (d p co : Int) (w : World) (h : HzMem w An Ad As Al Ap nn cn nd cd n c nl cl np cp ns ds m ls pr) :
  Calls Tryz.prog 17 #[.agg #[.slice An nn cn, .slice Ad nd cd], .slice As n c, .agg #[.int .i64 d, .int .i64 p], .agg #[.int .i64 co, .slice Al nl cl, .slice Ap np cp]] w (MayPost w ns ds m d p co ls pr) := by
 obtain ⟨hln, hld, hls⟩ := h.ln
 subst hln
 have hndm := h.hd.le; have hsm := h.hs.le
 have HB := Lib.hid (Bx3.new w #[.slice An ns.length cn, .slice Ad nd cd] #[.int .i64 d, .int .i64 p] #[.int .i64 co, .slice Al nl cl, .slice Ap np cp])
 have HH := Lib.hid h
 clear h
 go_enter Tryz.func17, Tryz.ntmps17
 go_wp2_with fail
 generalize World.alloc (World.alloc (World.alloc w _) _) _ = W at *
 have HM := Lib.hid (HH.out.below HB.out.bl)
 refine (states_any An Ad As Al Ap ns.length cn nd cd n c nl cl np cp ns ds m ls pr d p co W HM.out).mono ?_
 rintro e w1 ⟨⟨h1, rfl⟩ | ⟨h1, AR, kR, cR, rfl, hR⟩, hb1⟩
 ·have H1 := Lib.hid h1
  have q : (stsErr ns ds m d p co != 0) = true := by simpa using h1
  have HB1 := Lib.hid (HB.out.later hb1.out)
  clear h1 hb1 HB HM
  go_wp2_with fail
  go_ret2
  exact ⟨.inl ⟨H1.out, rfl⟩, HB1.out.bl⟩
 have HB1 := Lib.hid (HB.out.later hb1.out)
 have HM1 := Lib.hid (HH.out.below HB1.out.bl)
 have H1 := Lib.hid h1
 have HLR := Lib.hid hR.out.len
 have hkR : kR ≤ 256 := by have := allOf_len (stsErr_ok h1).2.2; have := hR.out.len; omega
 have hRl := hR.out.le
 obtain ⟨hmk, hze, hce⟩ := stsErr_ok h1
 obtain ⟨hd, hp, hco⟩ := hzErr_ok hze
 have HMK := Lib.hid hmk; have HZE := Lib.hid hze
 have hsl : m.length = ds.length := (maskErr_net hmk).2.1
 obtain ⟨k, rfl⟩ := Int.eq_ofNat_of_zero_le hd.1
 have hk : k < ds.length := by omega
 obtain ⟨x, hx⟩ : ∃ x, ds[k]? = some x := ⟨_, List.getElem?_eq_getElem hk⟩
 have HX := Lib.hid hx
 clear HB HM hb1 hce hmk hze hx h1
 obtain ⟨hzf, hhz⟩ : ∃ f : List Int → List Int, f = fun s => hzAt ns.length ns ds s k p co ls pr x := ⟨_, rfl⟩
 have HHZ := Lib.hid hhz
 have HH7 : Hid (∀ s, (hzf s).length ≤ 7) := fun s => by rw [hhz]; exact hzAt_len _ _ _ _ _ _ _ _ _ _
 clear hhz
 obtain ⟨md, hmd⟩ : ∃ y, m.getD k 0 = y := ⟨_, rfl⟩
 have HMD : Hid (m[k]? = some md) := by
  unfold Hid
  rw [← hmd, List.getD_eq_getElem?_getD, List.getElem?_eq_getElem (by omega)]; rfl
 have HMD2 := Lib.hid hmd
 clear hmd
 obtain ⟨bs, of2, md', rfl, hbs, hmd', hcm⟩ := HM1.out.hs.at1 (k := k) (by omega)
 obtain rfl : md = md' := by have := HMD.out; rw [this] at hmd'; exact Option.some.inj hmd'
 have HMC := Lib.hid hcm
 clear hcm hmd'
 have hz1 := HB1.out.bl.size
 go_wp2_with fail
 go_loopg [12, 30] kR (MyR1 w1 (MyIn hzf (fun h => h ≠ 7 ∨ md = p) (allOf m)) kR)
 case atStart => exact ⟨0, 0, 0, none, [], rfl, rfl, Nat.zero_le _, rfl, World.ownsRow_nil _ _ _ _, Below.refl _ _, MyIn.start⟩
 case round =>
  obtain ⟨kk, mo, co2, Ao, out, rfl, rfl, hkk, rfl, hO, hbl, hin⟩ := hrel
  by_cases hlt : kk < kR
  ·obtain ⟨br, ofr, s, As2, cs2, rfl, hbr, hs, hcr, hsr⟩ := (hR.out.below hbl.out (Nat.le_refl _)).at hlt
   have HSE : Hid (stateErr ns ds s = 0) := state_of_mask HMK.out (List.mem_of_getElem? hs)
   have HS := Lib.hid hs
   have HBr := Lib.hid (HB1.out.later hbl.out)
   have HMr := Lib.hid (HM1.out.below hbl.out)
   have HSR := Lib.hid (hsr.more hbl.out.size)
   obtain ⟨⟨k0, k1⟩, ⟨o0, o1⟩, g0, g1, g2⟩ := HBr.out.cells
   clear hs hsr
   go_upto_region 8 with (fail)
   clear hcr
   obtain ⟨x', hx', hinn⟩ := in_ok (s := s) (As := As2) (n := s.length) (c := cs2) ⟨HMr.out.hn, HMr.out.hd, HSR.out, HMr.out.hl, HMr.out.hp, HMr.out.la, HMr.out.sn, HMr.out.sd⟩ HSE.out (show hzErr nd (k : Int) p co = 0 by rw [← hld]; exact HZE.out)
   simp only [Int.toNat_natCast] at hx' hinn
   obtain rfl : x = x' := by have := HX.out; rw [this] at hx'; exact Option.some.inj hx'
   rw [show hzAt ns.length ns ds s k p co ls pr x = hzf s by rw [HHZ.out]] at hinn
   have HIN := Lib.hid hinn
   clear hinn hx'
   go_wp2_with fail
   clear k0 k1 o0 o1 g0 g1 g2
   refine HIN.out.mono ?_
   rintro e w4 ⟨AH, cH, rfl, hOH, hb4⟩
   obtain ⟨q, hq⟩ : ∃ q, (hzf s).length = q := ⟨_, rfl⟩
   have hq7 : q ≤ 7 := by rw [← hq]; exact HH7.out s
   rw [hq] at hOH ⊢
   have HQ := Lib.hid hq
   obtain ⟨Bk, hBk⟩ : ∃ x, x = wr.heap.size := ⟨_, rfl⟩
   obtain ⟨B4, hB4⟩ : ∃ x, x = w4.heap.size := ⟨_, rfl⟩
   have HO4 := Lib.hid (hO.out.later hb4.out)
   have HBL4 := Lib.hid (hbl.out.trans (hb4.out.mono hbl.out.size))
   have HAP : Hid (∀ g, (Value.slice Ao mo co2).ownBlock = some g → g < Bk ∨ B4 ≤ g) := fun g h => .inl (by rw [hBk]; exact (hO.out.lt g h).2)
   have HHL : Hid (∀ g, (Value.slice AH q cH).ownBlock = some g → Bk ≤ g ∧ g < B4) := fun g h => by rw [hBk, hB4]; exact hOH.out.lt g h
   have HB44 : Hid (B4 ≤ w4.heap.size) := by unfold Hid; omega
   have HIN2 := Lib.hid (MyIn.two (s := s) hin.out)
   rw [← hBk] at hOH
   have hB14 : w1.heap.size ≤ B4 := by rw [hB4]; exact HBL4.out.size
   clear hO hbl hin hb4 HIN hq hB4 hBk HBr HMr HSR HSE
   go_wp2_with fail
   go_loopg [12, 40] q (MyR2 w1 B4 Bk AH q cH (hzf s) (MyIn2 hzf (fun h => h ≠ 7 ∨ md = p) (allOf m) kk s))
   case atStart => exact ⟨0, mo, co2, Ao, out, rfl, rfl, Nat.zero_le _, rfl, HO4, hOH, HBL4, HAP, HB44, HIN2⟩
   case round =>
    clear HO4 hOH HBL4 HAP HB44 HIN2
    clear mo co2 Ao out
    obtain ⟨j, mo, co2, Ao, out, rfl, rfl, hj, rfl, hO, hOH, hbl, hap, hz4, hin⟩ := hrel
    by_cases hjl : j < q
    ·obtain ⟨b, off, xh, rfl, hb, hxh, hch⟩ := hOH.out.sl.at1 hjl
     have HBr := Lib.hid (HB1.out.later hbl.out)
     have HC11 : Hid ((wr.cell? ⟨w.heap.size + 1, 0, none⟩ = some (.int .i64 k) ∧ wr.cell? ⟨w.heap.size + 1, 1, none⟩ = some (.int .i64 p)) ∧ wr.cell? ⟨bs, of2 + k, none⟩ = some (.int .i64 md)) := ⟨HBr.out.cells.2.1, (hbl.out.cell (p := ⟨bs, of2 + k, none⟩) hbs).trans HMC.out⟩
     have HCO := Lib.hid (contains_any Ao mo co2 wr.heap.size out xh wr.drew hO.out.sl)
     have HXH := Lib.hid hxh
     have hmo : mo ≤ 2000 := by have h1 := hin.out.1; have h2 := hO.out.len; omega
     have hcl := hO.out.sl.le
     have hkn : k < n := by omega
     clear hxh HBr
     go_upto_region 11 with (fail)
     rcases hm : hasB out xh with _ | _
     ·rw [hm] at HCO
      have HN := Lib.hid ((hasB_not _ _).1 hm)
      clear hm
      by_cases h7 : xh = 7
      ·subst h7
       by_cases hmp : md = p
       ·have qp : (md == p) = true := by simpa using hmp
        have HP := Lib.hid (hin.out.put HXH.out HN.out (.inr hmp))
        refine wp_region_ord (S := fun W' => ((W'.cell? ⟨w.heap.size + 1, 0, none⟩ = some (.int .i64 k) ∧ W'.cell? ⟨w.heap.size + 1, 1, none⟩ = some (.int .i64 p)) ∧ W'.cell? ⟨bs, of2 + k, none⟩ = some (.int .i64 md))) (J := []) (n := _) ((0, true) :: (1, true) :: (2, false) :: (3, true) :: (4, true) :: (5, true) :: (6, true) :: (7, true) :: (8, true) :: (9, true) :: (10, true) :: (11, true) :: (12, true) :: (13, true) :: (14, true) :: (15, true) :: (16, true) :: (17, true) :: []) (by as_aux_lemma => kernel_rfl) (by rfl) (base_cons (k := 12) (by go_simp; rfl) (base_cons (k := 16) (by go_simp; rfl) (base_cons (k := 1) (by go_simp; rfl) (base_cons (k := 6) (by go_simp; rfl) base_nil)))) ?_ (fun _ _ _ _ _ h => h) (fun Q2 A hsz hbase hn2 hHeld => ?_)
        ·exact HC11.out
        try dsimp only at hHeld
        obtain ⟨b12, b16, b1, b6, -⟩ := hbase
        refine ord_move (i := 0) (d := 44) (v := ?_) rfl rfl rfl (wanted_none rfl) hHeld (fun ρ hρ => ?_) ?_
        rotate_left
        ·(have e12 := Eq.trans (hρ.tmp hsz 12 rfl) (lkp_base b12); exact e12)
        show wpOrd _ _ _ _ _ _ _ _
        refine ord_move (i := 1) (d := 45) (v := ?_) rfl rfl rfl (wanted_none rfl) hHeld (fun ρ hρ => ?_) ?_
        rotate_left
        ·(have e16 := Eq.trans (hρ.tmp hsz 16 rfl) (miss1 rfl (lkp_base b16)); exact e16)
        show wpOrd _ _ _ _ _ _ _ _
        refine ord_call (i := 2) (d := 46) (vs := ?_) rfl rfl rfl (wanted_none rfl) (fun ρ hρ => ?_) ?_ ?_
        rotate_left
        ·(have e44 := Eq.trans (hρ.tmp hsz 44 rfl) (miss1 rfl lkp_hit); have e45 := Eq.trans (hρ.tmp hsz 45 rfl) lkp_hit; simp only [List.map_toArray, List.map_cons, List.map_nil, e44, e45]; try with_reducible rfl)
        ·(intro w; go_simp)
        refine HCO.out.mono ?_
        rintro e w6 ⟨rfl, rfl⟩
        refine ⟨_, rfl, fun _ => ?_, fun hHeld' => ?_⟩
        ·exact HC11.out
        replace hHeld := hHeld' rfl
        clear hHeld'
        try dsimp only at hHeld
        show wpOrd _ _ _ _ _ _ _ _
        refine ord_take (i := 3) (d := 47) (v := ?_) rfl rfl (wanted_none rfl) hHeld (fun ρ hρ w hSw => ?_) ?_
        rotate_left
        ·(have e46 := Eq.trans (hρ.tmp hsz 46 rfl) lkp_hit; clear hρ; (try dsimp only at hSw); go_simp; try with_reducible rfl)
        show wpOrd _ _ _ _ _ _ _ _
        refine ord_move (i := 4) (d := 48) (v := ?_) rfl rfl rfl (wanted_none rfl) hHeld (fun ρ hρ => ?_) ?_
        rotate_left
        ·(have e47 := Eq.trans (hρ.tmp hsz 47 rfl) lkp_hit; exact e47)
        show wpOrd _ _ _ _ _ _ _ _
        refine ord_move (i := 5) (d := 49) (v := ?_) rfl rfl rfl (wanted_yes (j := 4) (dj := 48) (b := true) rfl hsz rfl rfl rfl lkp_hit) hHeld (fun ρ hρ => ?_) ?_
        rotate_left
        ·(have e16 := Eq.trans (hρ.tmp hsz 16 rfl) (miss4 rfl rfl rfl rfl (miss1 rfl (lkp_base b16))); exact e16)
        show wpOrd _ _ _ _ _ _ _ _
        refine ord_take (i := 6) (d := 50) (v := ?_) rfl rfl (wanted_yes (j := 4) (dj := 48) (b := true) rfl hsz rfl rfl rfl (miss1 rfl lkp_hit)) hHeld (fun ρ hρ w hSw => ?_) ?_
        rotate_left
        ·(have hc := hρ.const; have e49 := Eq.trans (hρ.tmp hsz 49 rfl) lkp_hit; clear hρ; (try dsimp only at hSw); go_simp; try with_reducible rfl)
        show wpOrd _ _ _ _ _ _ _ _
        refine ord_move (i := 7) (d := 51) (v := ?_) rfl rfl rfl (wanted_yes (j := 4) (dj := 48) (b := true) rfl hsz rfl rfl rfl (miss1 rfl (miss1 rfl lkp_hit))) hHeld (fun ρ hρ => ?_) ?_
        rotate_left
        ·(have e50 := Eq.trans (hρ.tmp hsz 50 rfl) lkp_hit; exact e50)
        show wpOrd _ _ _ _ _ _ _ _
        refine ord_move (i := 8) (d := 52) (v := ?_) rfl rfl rfl (wanted_yes (j := 7) (dj := 51) (b := false) rfl hsz rfl rfl rfl lkp_hit) hHeld (fun ρ hρ => ?_) ?_
        rotate_left
        ·(have e1 := Eq.trans (hρ.tmp hsz 1 rfl) (miss4 rfl rfl rfl rfl (miss4 rfl rfl rfl rfl (lkp_base b1))); exact e1)
        show wpOrd _ _ _ _ _ _ _ _
        refine ord_take (i := 9) (d := 53) (v := ?_) rfl rfl (wanted_yes (j := 7) (dj := 51) (b := false) rfl hsz rfl rfl rfl (miss1 rfl lkp_hit)) hHeld (fun ρ hρ w hSw => ?_) ?_
        rotate_left
        ·(have e6 := Eq.trans (hρ.tmp hsz 6 rfl) (miss4 rfl rfl rfl rfl (miss4 rfl rfl rfl rfl (miss1 rfl (lkp_base b6)))); clear hρ; (try dsimp only at hSw); go_simp; try with_reducible rfl)
        show wpOrd _ _ _ _ _ _ _ _
        refine ord_take (i := 10) (d := 54) (v := ?_) rfl rfl (wanted_yes (j := 7) (dj := 51) (b := false) rfl hsz rfl rfl rfl (miss1 rfl (miss1 rfl lkp_hit))) hHeld (fun ρ hρ w hSw => ?_) ?_
        rotate_left
        ·(have e53 := Eq.trans (hρ.tmp hsz 53 rfl) lkp_hit; clear hρ; (try dsimp only at hSw); go_simp; try with_reducible rfl)
        show wpOrd _ _ _ _ _ _ _ _
        refine ord_take (i := 11) (d := 55) (v := ?_) rfl rfl (wanted_yes (j := 7) (dj := 51) (b := false) rfl hsz rfl rfl rfl (miss1 rfl (miss1 rfl (miss1 rfl lkp_hit)))) hHeld (fun ρ hρ w hSw => ?_) ?_
        rotate_left
        ·(have e52 := Eq.trans (hρ.tmp hsz 52 rfl) (miss1 rfl (miss1 rfl lkp_hit)); have e54 := Eq.trans (hρ.tmp hsz 54 rfl) lkp_hit; clear hρ; (try dsimp only at hSw); go_simp; try with_reducible rfl)
        show wpOrd _ _ _ _ _ _ _ _
        refine ord_take (i := 12) (d := 56) (v := ?_) rfl rfl (wanted_yes (j := 7) (dj := 51) (b := false) rfl hsz rfl rfl rfl (miss4 rfl rfl rfl rfl lkp_hit)) hHeld (fun ρ hρ w hSw => ?_) ?_
        rotate_left
        ·(have e55 := Eq.trans (hρ.tmp hsz 55 rfl) lkp_hit; clear hρ; (try dsimp only at hSw); go_simp; try with_reducible rfl)
        show wpOrd _ _ _ _ _ _ _ _
        refine ord_take (i := 13) (d := 57) (v := ?_) rfl rfl (wanted_yes (j := 7) (dj := 51) (b := false) rfl hsz rfl rfl rfl (miss4 rfl rfl rfl rfl (miss1 rfl lkp_hit))) hHeld (fun ρ hρ w hSw => ?_) ?_
        rotate_left
        ·(have e6 := Eq.trans (hρ.tmp hsz 6 rfl) (miss4 rfl rfl rfl rfl (miss4 rfl rfl rfl rfl (miss4 rfl rfl rfl rfl (miss1 rfl (lkp_base b6))))); clear hρ; (try dsimp only at hSw); go_simp; try with_reducible rfl)
        show wpOrd _ _ _ _ _ _ _ _
        refine ord_take (i := 14) (d := 58) (v := ?_) rfl rfl (wanted_yes (j := 7) (dj := 51) (b := false) rfl hsz rfl rfl rfl (miss4 rfl rfl rfl rfl (miss1 rfl (miss1 rfl lkp_hit)))) hHeld (fun ρ hρ w hSw => ?_) ?_
        rotate_left
        ·(have e57 := Eq.trans (hρ.tmp hsz 57 rfl) lkp_hit; clear hρ; (try dsimp only at hSw); go_simp; try with_reducible rfl)
        show wpOrd _ _ _ _ _ _ _ _
        refine ord_take (i := 15) (d := 59) (v := ?_) rfl rfl (wanted_yes (j := 7) (dj := 51) (b := false) rfl hsz rfl rfl rfl (miss4 rfl rfl rfl rfl (miss1 rfl (miss1 rfl (miss1 rfl lkp_hit))))) hHeld (fun ρ hρ w hSw => ?_) ?_
        rotate_left
        ·(have e56 := Eq.trans (hρ.tmp hsz 56 rfl) (miss1 rfl (miss1 rfl lkp_hit)); have e58 := Eq.trans (hρ.tmp hsz 58 rfl) lkp_hit; clear hρ; (try dsimp only at hSw); go_simp; try with_reducible rfl)
        show wpOrd _ _ _ _ _ _ _ _
        refine ord_take (i := 16) (d := 60) (v := ?_) rfl rfl (wanted_yes (j := 4) (dj := 48) (b := true) rfl hsz rfl rfl rfl (miss4 rfl rfl rfl rfl (miss4 rfl rfl rfl rfl (miss1 rfl (miss1 rfl (miss1 rfl lkp_hit)))))) hHeld (fun ρ hρ w hSw => ?_) ?_
        rotate_left
        ·(have hc := hρ.const; have e51 := Eq.trans (hρ.tmp hsz 51 rfl) (miss4 rfl rfl rfl rfl (miss4 rfl rfl rfl rfl lkp_hit)); have e59 := Eq.trans (hρ.tmp hsz 59 rfl) lkp_hit; clear hρ; (try dsimp only at hSw); go_simp; try with_reducible rfl)
        show wpOrd _ _ _ _ _ _ _ _
        refine ord_take (i := 17) (d := 61) (v := ?_) rfl rfl (wanted_none rfl) hHeld (fun ρ hρ w hSw => ?_) ?_
        rotate_left
        ·(have hc := hρ.const; have e48 := Eq.trans (hρ.tmp hsz 48 rfl) (miss4 rfl rfl rfl rfl (miss4 rfl rfl rfl rfl (miss4 rfl rfl rfl rfl lkp_hit))); have e60 := Eq.trans (hρ.tmp hsz 60 rfl) lkp_hit; clear hρ; (try dsimp only at hSw); go_simp; try with_reducible rfl)
        show wpOrd _ _ _ _ _ _ _ _
        refine ord_done hn2 ?_
        clear hHeld hn2 b12 b16 b1 b6 hsz A Q2
        simp only [puts_nil, puts_cons, put_lit, set_1, set_0]
        have HOQ : Hid (IntsO wr.drew w1.heap.size Ao mo co2 out) := hO.out
        have HHQ : Hid (IntsO wr.drew Bk (some ⟨b, off, none⟩) q cH (hzf s)) := hOH.out
        have HBQ : Hid (Below w1.heap.size w1 wr.drew) := hbl.out.drew
        have HZQ : Hid (B4 ≤ wr.drew.heap.size) := hz4.out
        clear hO hOH hbl hz4 HC11 HCO hch
        generalize World.drew wr = wq at *
        go_wp2_with (at_builtin; go_must (refine wpList_app rfl (.tmp 62) (.tmp 64) rfl el_int (by rfl) (HOQ.out.alloc _) (by rfl) (Sl.newest (n := 1) (by simp) (by rfl) (by decide)) (by simp [Value.oneCell']) (by omega) (by omega) (by have := HBQ.out.size; simp; omega) ?_; intro A' cap' w7 hown7 hgr7 hat7; have HO7 := Lib.hid hown7; have HG7 := Lib.hid hgr7; have HA7 := Lib.hid hat7; clear hown7 hgr7 hat7))
        go_roundg (q - (j + 1))
        case rel =>
         refine ⟨j + 1, mo + 1, cap', A', out ++ [7], by go_num, rfl, by omega, rfl, ?_, ?_, ?_, ?_, ?_, HP⟩
         ·have := HO7.out
          unfold Hid IntsO
          rw [intsV_append]
          exact this
         ·exact (HHQ.out.alloc _).kept HG7.out (own_apart hap.out HHL.out)
         ·refine (HBQ.out.alloc HBQ.out.size _).trans ⟨HG7.out.os, HG7.out.tape, HG7.out.output, HG7.out.size, fun i hi => HG7.out.block i (by have := HBQ.out.size; simp; omega) (fun e => ?_)⟩
          have := (HOQ.out.lt i e.symm).1
          omega
         ·intro gq hgq
          rcases HA7.out with e | e
          ·exact hap.out gq (by rw [← e]; exact hgq)
          ·rw [e] at hgq
           simp at hgq
           have := HZQ.out
           exact .inr (by omega)
         ·have h1 := HG7.out.size; have h2 := HZQ.out
          unfold Hid
          simp at h1
          omega
        case measure => omega
       ·have qp : (md == p) = false := by simpa using hmp
        have HP := Lib.hid (hin.out.pass HXH.out (.inr fun h => by rcases h with h | h; exact h rfl; exact hmp h))
        refine wp_region_ord (S := fun W' => ((W'.cell? ⟨w.heap.size + 1, 0, none⟩ = some (.int .i64 k) ∧ W'.cell? ⟨w.heap.size + 1, 1, none⟩ = some (.int .i64 p)) ∧ W'.cell? ⟨bs, of2 + k, none⟩ = some (.int .i64 md))) (J := []) (n := _) ((0, true) :: (1, true) :: (2, false) :: (3, true) :: (4, true) :: (5, true) :: (6, true) :: (7, true) :: (8, true) :: (9, true) :: (10, true) :: (11, true) :: (12, true) :: (13, true) :: (14, true) :: (15, true) :: (16, true) :: (17, true) :: []) (by as_aux_lemma => kernel_rfl) (by rfl) (base_cons (k := 12) (by go_simp; rfl) (base_cons (k := 16) (by go_simp; rfl) (base_cons (k := 1) (by go_simp; rfl) (base_cons (k := 6) (by go_simp; rfl) base_nil)))) ?_ (fun _ _ _ _ _ h => h) (fun Q2 A hsz hbase hn2 hHeld => ?_)
        ·exact HC11.out
        try dsimp only at hHeld
        obtain ⟨b12, b16, b1, b6, -⟩ := hbase
        refine ord_move (i := 0) (d := 44) (v := ?_) rfl rfl rfl (wanted_none rfl) hHeld (fun ρ hρ => ?_) ?_
        rotate_left
        ·(have e12 := Eq.trans (hρ.tmp hsz 12 rfl) (lkp_base b12); exact e12)
        show wpOrd _ _ _ _ _ _ _ _
        refine ord_move (i := 1) (d := 45) (v := ?_) rfl rfl rfl (wanted_none rfl) hHeld (fun ρ hρ => ?_) ?_
        rotate_left
        ·(have e16 := Eq.trans (hρ.tmp hsz 16 rfl) (miss1 rfl (lkp_base b16)); exact e16)
        show wpOrd _ _ _ _ _ _ _ _
        refine ord_call (i := 2) (d := 46) (vs := ?_) rfl rfl rfl (wanted_none rfl) (fun ρ hρ => ?_) ?_ ?_
        rotate_left
        ·(have e44 := Eq.trans (hρ.tmp hsz 44 rfl) (miss1 rfl lkp_hit); have e45 := Eq.trans (hρ.tmp hsz 45 rfl) lkp_hit; simp only [List.map_toArray, List.map_cons, List.map_nil, e44, e45]; try with_reducible rfl)
        ·(intro w; go_simp)
        refine HCO.out.mono ?_
        rintro e w6 ⟨rfl, rfl⟩
        refine ⟨_, rfl, fun _ => ?_, fun hHeld' => ?_⟩
        ·exact HC11.out
        replace hHeld := hHeld' rfl
        clear hHeld'
        try dsimp only at hHeld
        show wpOrd _ _ _ _ _ _ _ _
        refine ord_take (i := 3) (d := 47) (v := ?_) rfl rfl (wanted_none rfl) hHeld (fun ρ hρ w hSw => ?_) ?_
        rotate_left
        ·(have e46 := Eq.trans (hρ.tmp hsz 46 rfl) lkp_hit; clear hρ; (try dsimp only at hSw); go_simp; try with_reducible rfl)
        show wpOrd _ _ _ _ _ _ _ _
        refine ord_move (i := 4) (d := 48) (v := ?_) rfl rfl rfl (wanted_none rfl) hHeld (fun ρ hρ => ?_) ?_
        rotate_left
        ·(have e47 := Eq.trans (hρ.tmp hsz 47 rfl) lkp_hit; exact e47)
        show wpOrd _ _ _ _ _ _ _ _
        refine ord_move (i := 5) (d := 49) (v := ?_) rfl rfl rfl (wanted_yes (j := 4) (dj := 48) (b := true) rfl hsz rfl rfl rfl lkp_hit) hHeld (fun ρ hρ => ?_) ?_
        rotate_left
        ·(have e16 := Eq.trans (hρ.tmp hsz 16 rfl) (miss4 rfl rfl rfl rfl (miss1 rfl (lkp_base b16))); exact e16)
        show wpOrd _ _ _ _ _ _ _ _
        refine ord_take (i := 6) (d := 50) (v := ?_) rfl rfl (wanted_yes (j := 4) (dj := 48) (b := true) rfl hsz rfl rfl rfl (miss1 rfl lkp_hit)) hHeld (fun ρ hρ w hSw => ?_) ?_
        rotate_left
        ·(have hc := hρ.const; have e49 := Eq.trans (hρ.tmp hsz 49 rfl) lkp_hit; clear hρ; (try dsimp only at hSw); go_simp; try with_reducible rfl)
        show wpOrd _ _ _ _ _ _ _ _
        refine ord_move (i := 7) (d := 51) (v := ?_) rfl rfl rfl (wanted_yes (j := 4) (dj := 48) (b := true) rfl hsz rfl rfl rfl (miss1 rfl (miss1 rfl lkp_hit))) hHeld (fun ρ hρ => ?_) ?_
        rotate_left
        ·(have e50 := Eq.trans (hρ.tmp hsz 50 rfl) lkp_hit; exact e50)
        show wpOrd _ _ _ _ _ _ _ _
        refine ord_move (i := 8) (d := 52) (v := ?_) rfl rfl rfl (wanted_yes (j := 7) (dj := 51) (b := false) rfl hsz rfl rfl rfl lkp_hit) hHeld (fun ρ hρ => ?_) ?_
        rotate_left
        ·(have e1 := Eq.trans (hρ.tmp hsz 1 rfl) (miss4 rfl rfl rfl rfl (miss4 rfl rfl rfl rfl (lkp_base b1))); exact e1)
        show wpOrd _ _ _ _ _ _ _ _
        refine ord_take (i := 9) (d := 53) (v := ?_) rfl rfl (wanted_yes (j := 7) (dj := 51) (b := false) rfl hsz rfl rfl rfl (miss1 rfl lkp_hit)) hHeld (fun ρ hρ w hSw => ?_) ?_
        rotate_left
        ·(have e6 := Eq.trans (hρ.tmp hsz 6 rfl) (miss4 rfl rfl rfl rfl (miss4 rfl rfl rfl rfl (miss1 rfl (lkp_base b6)))); clear hρ; (try dsimp only at hSw); go_simp; try with_reducible rfl)
        show wpOrd _ _ _ _ _ _ _ _
        refine ord_take (i := 10) (d := 54) (v := ?_) rfl rfl (wanted_yes (j := 7) (dj := 51) (b := false) rfl hsz rfl rfl rfl (miss1 rfl (miss1 rfl lkp_hit))) hHeld (fun ρ hρ w hSw => ?_) ?_
        rotate_left
        ·(have e53 := Eq.trans (hρ.tmp hsz 53 rfl) lkp_hit; clear hρ; (try dsimp only at hSw); go_simp; try with_reducible rfl)
        show wpOrd _ _ _ _ _ _ _ _
        refine ord_take (i := 11) (d := 55) (v := ?_) rfl rfl (wanted_yes (j := 7) (dj := 51) (b := false) rfl hsz rfl rfl rfl (miss1 rfl (miss1 rfl (miss1 rfl lkp_hit)))) hHeld (fun ρ hρ w hSw => ?_) ?_
        rotate_left
        ·(have e52 := Eq.trans (hρ.tmp hsz 52 rfl) (miss1 rfl (miss1 rfl lkp_hit)); have e54 := Eq.trans (hρ.tmp hsz 54 rfl) lkp_hit; clear hρ; (try dsimp only at hSw); go_simp; try with_reducible rfl)
        show wpOrd _ _ _ _ _ _ _ _
        refine ord_take (i := 12) (d := 56) (v := ?_) rfl rfl (wanted_yes (j := 7) (dj := 51) (b := false) rfl hsz rfl rfl rfl (miss4 rfl rfl rfl rfl lkp_hit)) hHeld (fun ρ hρ w hSw => ?_) ?_
        rotate_left
        ·(have e55 := Eq.trans (hρ.tmp hsz 55 rfl) lkp_hit; clear hρ; (try dsimp only at hSw); go_simp; try with_reducible rfl)
        show wpOrd _ _ _ _ _ _ _ _
        refine ord_take (i := 13) (d := 57) (v := ?_) rfl rfl (wanted_yes (j := 7) (dj := 51) (b := false) rfl hsz rfl rfl rfl (miss4 rfl rfl rfl rfl (miss1 rfl lkp_hit))) hHeld (fun ρ hρ w hSw => ?_) ?_
        rotate_left
        ·(have e6 := Eq.trans (hρ.tmp hsz 6 rfl) (miss4 rfl rfl rfl rfl (miss4 rfl rfl rfl rfl (miss4 rfl rfl rfl rfl (miss1 rfl (lkp_base b6))))); clear hρ; (try dsimp only at hSw); go_simp; try with_reducible rfl)
        show wpOrd _ _ _ _ _ _ _ _
        refine ord_take (i := 14) (d := 58) (v := ?_) rfl rfl (wanted_yes (j := 7) (dj := 51) (b := false) rfl hsz rfl rfl rfl (miss4 rfl rfl rfl rfl (miss1 rfl (miss1 rfl lkp_hit)))) hHeld (fun ρ hρ w hSw => ?_) ?_
        rotate_left
        ·(have e57 := Eq.trans (hρ.tmp hsz 57 rfl) lkp_hit; clear hρ; (try dsimp only at hSw); go_simp; try with_reducible rfl)
        show wpOrd _ _ _ _ _ _ _ _
        refine ord_take (i := 15) (d := 59) (v := ?_) rfl rfl (wanted_yes (j := 7) (dj := 51) (b := false) rfl hsz rfl rfl rfl (miss4 rfl rfl rfl rfl (miss1 rfl (miss1 rfl (miss1 rfl lkp_hit))))) hHeld (fun ρ hρ w hSw => ?_) ?_
        rotate_left
        ·(have e56 := Eq.trans (hρ.tmp hsz 56 rfl) (miss1 rfl (miss1 rfl lkp_hit)); have e58 := Eq.trans (hρ.tmp hsz 58 rfl) lkp_hit; clear hρ; (try dsimp only at hSw); go_simp; try with_reducible rfl)
        show wpOrd _ _ _ _ _ _ _ _
        refine ord_take (i := 16) (d := 60) (v := ?_) rfl rfl (wanted_yes (j := 4) (dj := 48) (b := true) rfl hsz rfl rfl rfl (miss4 rfl rfl rfl rfl (miss4 rfl rfl rfl rfl (miss1 rfl (miss1 rfl (miss1 rfl lkp_hit)))))) hHeld (fun ρ hρ w hSw => ?_) ?_
        rotate_left
        ·(have hc := hρ.const; have e51 := Eq.trans (hρ.tmp hsz 51 rfl) (miss4 rfl rfl rfl rfl (miss4 rfl rfl rfl rfl lkp_hit)); have e59 := Eq.trans (hρ.tmp hsz 59 rfl) lkp_hit; clear hρ; (try dsimp only at hSw); go_simp; try with_reducible rfl)
        show wpOrd _ _ _ _ _ _ _ _
        refine ord_take (i := 17) (d := 61) (v := ?_) rfl rfl (wanted_none rfl) hHeld (fun ρ hρ w hSw => ?_) ?_
        rotate_left
        ·(have hc := hρ.const; have e48 := Eq.trans (hρ.tmp hsz 48 rfl) (miss4 rfl rfl rfl rfl (miss4 rfl rfl rfl rfl (miss4 rfl rfl rfl rfl lkp_hit))); have e60 := Eq.trans (hρ.tmp hsz 60 rfl) lkp_hit; clear hρ; (try dsimp only at hSw); go_simp; try with_reducible rfl)
        show wpOrd _ _ _ _ _ _ _ _
        refine ord_done hn2 ?_
        clear hHeld hn2 b12 b16 b1 b6 hsz A Q2
        simp only [puts_nil, puts_cons, put_lit, set_1, set_0]
        have HOQ : Hid (IntsO wr.drew w1.heap.size Ao mo co2 out) := hO.out
        have HHQ : Hid (IntsO wr.drew Bk (some ⟨b, off, none⟩) q cH (hzf s)) := hOH.out
        have HBQ : Hid (Below w1.heap.size w1 wr.drew) := hbl.out.drew
        have HZQ : Hid (B4 ≤ wr.drew.heap.size) := hz4.out
        clear hO hOH hbl hz4 HC11 HCO hch
        generalize World.drew wr = wq at *
        go_wp2_with fail
        go_roundg (q - (j + 1))
        case rel => exact ⟨j + 1, mo, co2, Ao, out, by go_num, rfl, by omega, rfl, HOQ, HHQ, HBQ, hap, HZQ, HP⟩
        case measure => omega
      ·have q7 : (xh != 7) = true := by simpa using h7
       have HP := Lib.hid (hin.out.put HXH.out HN.out (.inl h7))
       refine wp_region_ord (S := fun W' => ((W'.cell? ⟨w.heap.size + 1, 0, none⟩ = some (.int .i64 k) ∧ W'.cell? ⟨w.heap.size + 1, 1, none⟩ = some (.int .i64 p)) ∧ W'.cell? ⟨bs, of2 + k, none⟩ = some (.int .i64 md))) (J := []) (n := _) ((0, true) :: (1, true) :: (2, false) :: (3, true) :: (4, true) :: (5, true) :: (6, true) :: (7, true) :: (8, true) :: (9, true) :: (10, true) :: (11, true) :: (12, true) :: (13, true) :: (14, true) :: (15, true) :: (16, true) :: (17, true) :: []) (by as_aux_lemma => kernel_rfl) (by rfl) (base_cons (k := 12) (by go_simp; rfl) (base_cons (k := 16) (by go_simp; rfl) base_nil)) ?_ (fun _ _ _ _ _ h => h) (fun Q2 A hsz hbase hn2 hHeld => ?_)
       ·exact HC11.out
       try dsimp only at hHeld
       obtain ⟨b12, b16, -⟩ := hbase
       refine ord_move (i := 0) (d := 44) (v := ?_) rfl rfl rfl (wanted_none rfl) hHeld (fun ρ hρ => ?_) ?_
       rotate_left
       ·(have e12 := Eq.trans (hρ.tmp hsz 12 rfl) (lkp_base b12); exact e12)
       show wpOrd _ _ _ _ _ _ _ _
       refine ord_move (i := 1) (d := 45) (v := ?_) rfl rfl rfl (wanted_none rfl) hHeld (fun ρ hρ => ?_) ?_
       rotate_left
       ·(have e16 := Eq.trans (hρ.tmp hsz 16 rfl) (miss1 rfl (lkp_base b16)); exact e16)
       show wpOrd _ _ _ _ _ _ _ _
       refine ord_call (i := 2) (d := 46) (vs := ?_) rfl rfl rfl (wanted_none rfl) (fun ρ hρ => ?_) ?_ ?_
       rotate_left
       ·(have e44 := Eq.trans (hρ.tmp hsz 44 rfl) (miss1 rfl lkp_hit); have e45 := Eq.trans (hρ.tmp hsz 45 rfl) lkp_hit; simp only [List.map_toArray, List.map_cons, List.map_nil, e44, e45]; try with_reducible rfl)
       ·(intro w; go_simp)
       refine HCO.out.mono ?_
       rintro e w6 ⟨rfl, rfl⟩
       refine ⟨_, rfl, fun _ => ?_, fun hHeld' => ?_⟩
       ·exact HC11.out
       replace hHeld := hHeld' rfl
       clear hHeld'
       try dsimp only at hHeld
       show wpOrd _ _ _ _ _ _ _ _
       refine ord_take (i := 3) (d := 47) (v := ?_) rfl rfl (wanted_none rfl) hHeld (fun ρ hρ w hSw => ?_) ?_
       rotate_left
       ·(have e46 := Eq.trans (hρ.tmp hsz 46 rfl) lkp_hit; clear hρ; (try dsimp only at hSw); go_simp; try with_reducible rfl)
       show wpOrd _ _ _ _ _ _ _ _
       refine ord_move (i := 4) (d := 48) (v := ?_) rfl rfl rfl (wanted_none rfl) hHeld (fun ρ hρ => ?_) ?_
       rotate_left
       ·(have e47 := Eq.trans (hρ.tmp hsz 47 rfl) lkp_hit; exact e47)
       show wpOrd _ _ _ _ _ _ _ _
       refine ord_move (i := 5) (d := 49) (v := ?_) rfl rfl rfl (wanted_yes (j := 4) (dj := 48) (b := true) rfl hsz rfl rfl rfl lkp_hit) hHeld (fun ρ hρ => ?_) ?_
       rotate_left
       ·(have e16 := Eq.trans (hρ.tmp hsz 16 rfl) (miss4 rfl rfl rfl rfl (miss1 rfl (lkp_base b16))); exact e16)
       show wpOrd _ _ _ _ _ _ _ _
       refine ord_take (i := 6) (d := 50) (v := ?_) rfl rfl (wanted_yes (j := 4) (dj := 48) (b := true) rfl hsz rfl rfl rfl (miss1 rfl lkp_hit)) hHeld (fun ρ hρ w hSw => ?_) ?_
       rotate_left
       ·(have hc := hρ.const; have e49 := Eq.trans (hρ.tmp hsz 49 rfl) lkp_hit; clear hρ; (try dsimp only at hSw); go_simp; try with_reducible rfl)
       show wpOrd _ _ _ _ _ _ _ _
       refine ord_move (i := 7) (d := 51) (v := ?_) rfl rfl rfl (wanted_yes (j := 4) (dj := 48) (b := true) rfl hsz rfl rfl rfl (miss1 rfl (miss1 rfl lkp_hit))) hHeld (fun ρ hρ => ?_) ?_
       rotate_left
       ·(have e50 := Eq.trans (hρ.tmp hsz 50 rfl) lkp_hit; exact e50)
       show wpOrd _ _ _ _ _ _ _ _
       refine ord_skip (i := 8) (d := 52) rfl rfl (wanted_no (j := 7) (dj := 51) (b := false) (b' := true) rfl hsz rfl rfl rfl lkp_hit rfl) hHeld ?_
       show wpOrd _ _ _ _ _ _ _ _
       refine ord_skip (i := 9) (d := 53) rfl rfl (wanted_no (j := 7) (dj := 51) (b := false) (b' := true) rfl hsz rfl rfl rfl (miss1 rfl lkp_hit) rfl) hHeld ?_
       show wpOrd _ _ _ _ _ _ _ _
       refine ord_skip (i := 10) (d := 54) rfl rfl (wanted_no (j := 7) (dj := 51) (b := false) (b' := true) rfl hsz rfl rfl rfl (miss1 rfl (miss1 rfl lkp_hit)) rfl) hHeld ?_
       show wpOrd _ _ _ _ _ _ _ _
       refine ord_skip (i := 11) (d := 55) rfl rfl (wanted_no (j := 7) (dj := 51) (b := false) (b' := true) rfl hsz rfl rfl rfl (miss1 rfl (miss1 rfl (miss1 rfl lkp_hit))) rfl) hHeld ?_
       show wpOrd _ _ _ _ _ _ _ _
       refine ord_skip (i := 12) (d := 56) rfl rfl (wanted_no (j := 7) (dj := 51) (b := false) (b' := true) rfl hsz rfl rfl rfl (miss4 rfl rfl rfl rfl lkp_hit) rfl) hHeld ?_
       show wpOrd _ _ _ _ _ _ _ _
       refine ord_skip (i := 13) (d := 57) rfl rfl (wanted_no (j := 7) (dj := 51) (b := false) (b' := true) rfl hsz rfl rfl rfl (miss4 rfl rfl rfl rfl (miss1 rfl lkp_hit)) rfl) hHeld ?_
       show wpOrd _ _ _ _ _ _ _ _
       refine ord_skip (i := 14) (d := 58) rfl rfl (wanted_no (j := 7) (dj := 51) (b := false) (b' := true) rfl hsz rfl rfl rfl (miss4 rfl rfl rfl rfl (miss1 rfl (miss1 rfl lkp_hit))) rfl) hHeld ?_
       show wpOrd _ _ _ _ _ _ _ _
       refine ord_skip (i := 15) (d := 59) rfl rfl (wanted_no (j := 7) (dj := 51) (b := false) (b' := true) rfl hsz rfl rfl rfl (miss4 rfl rfl rfl rfl (miss1 rfl (miss1 rfl (miss1 rfl lkp_hit)))) rfl) hHeld ?_
       show wpOrd _ _ _ _ _ _ _ _
       refine ord_take (i := 16) (d := 60) (v := ?_) rfl rfl (wanted_yes (j := 4) (dj := 48) (b := true) rfl hsz rfl rfl rfl (miss4 rfl rfl rfl rfl (miss4 rfl rfl rfl rfl (miss1 rfl (miss1 rfl (miss1 rfl lkp_hit)))))) hHeld (fun ρ hρ w hSw => ?_) ?_
       rotate_left
       ·(have hc := hρ.const; have e51 := Eq.trans (hρ.tmp hsz 51 rfl) (miss4 rfl rfl rfl rfl (miss4 rfl rfl rfl rfl lkp_hit)); have e59 := Eq.trans (hρ.tmp hsz 59 rfl) lkp_hit; clear hρ; (try dsimp only at hSw); go_simp; try with_reducible rfl)
       show wpOrd _ _ _ _ _ _ _ _
       refine ord_take (i := 17) (d := 61) (v := ?_) rfl rfl (wanted_none rfl) hHeld (fun ρ hρ w hSw => ?_) ?_
       rotate_left
       ·(have hc := hρ.const; have e48 := Eq.trans (hρ.tmp hsz 48 rfl) (miss4 rfl rfl rfl rfl (miss4 rfl rfl rfl rfl (miss4 rfl rfl rfl rfl lkp_hit))); have e60 := Eq.trans (hρ.tmp hsz 60 rfl) lkp_hit; clear hρ; (try dsimp only at hSw); go_simp; try with_reducible rfl)
       show wpOrd _ _ _ _ _ _ _ _
       refine ord_done hn2 ?_
       clear hHeld hn2 b12 b16 hsz A Q2
       simp only [puts_nil, puts_cons, put_lit, set_1, set_0]
       have HOQ : Hid (IntsO wr.drew w1.heap.size Ao mo co2 out) := hO.out
       have HHQ : Hid (IntsO wr.drew Bk (some ⟨b, off, none⟩) q cH (hzf s)) := hOH.out
       have HBQ : Hid (Below w1.heap.size w1 wr.drew) := hbl.out.drew
       have HZQ : Hid (B4 ≤ wr.drew.heap.size) := hz4.out
       clear hO hOH hbl hz4 HC11 HCO hch
       generalize World.drew wr = wq at *
       go_wp2_with (at_builtin; go_must (refine wpList_app rfl (.tmp 62) (.tmp 64) rfl el_int (by rfl) (HOQ.out.alloc _) (by rfl) (Sl.newest (n := 1) (by simp) (by rfl) (by decide)) (by simp [Value.oneCell']) (by omega) (by omega) (by have := HBQ.out.size; simp; omega) ?_; intro A' cap' w7 hown7 hgr7 hat7; have HO7 := Lib.hid hown7; have HG7 := Lib.hid hgr7; have HA7 := Lib.hid hat7; clear hown7 hgr7 hat7))
       go_roundg (q - (j + 1))
       case rel =>
        refine ⟨j + 1, mo + 1, cap', A', out ++ [xh], by go_num, rfl, by omega, rfl, ?_, ?_, ?_, ?_, ?_, HP⟩
        ·have := HO7.out
         unfold Hid IntsO
         rw [intsV_append]
         exact this
        ·exact (HHQ.out.alloc _).kept HG7.out (own_apart hap.out HHL.out)
        ·refine (HBQ.out.alloc HBQ.out.size _).trans ⟨HG7.out.os, HG7.out.tape, HG7.out.output, HG7.out.size, fun i hi => HG7.out.block i (by have := HBQ.out.size; simp; omega) (fun e => ?_)⟩
         have := (HOQ.out.lt i e.symm).1
         omega
        ·intro gq hgq
         rcases HA7.out with e | e
         ·exact hap.out gq (by rw [← e]; exact hgq)
         ·rw [e] at hgq
          simp at hgq
          have := HZQ.out
          exact .inr (by omega)
        ·have h1 := HG7.out.size; have h2 := HZQ.out
         unfold Hid
         simp at h1
         omega
       case measure => omega
     ·rw [hm] at HCO
      have HP := Lib.hid (hin.out.pass HXH.out (.inl ((hasB_iff _ _).1 hm)))
      clear hm
      refine wp_region_ord (S := fun W' => ((W'.cell? ⟨w.heap.size + 1, 0, none⟩ = some (.int .i64 k) ∧ W'.cell? ⟨w.heap.size + 1, 1, none⟩ = some (.int .i64 p)) ∧ W'.cell? ⟨bs, of2 + k, none⟩ = some (.int .i64 md))) (J := []) (n := _) ((0, true) :: (1, true) :: (2, false) :: (3, true) :: (4, true) :: (5, true) :: (6, true) :: (7, true) :: (8, true) :: (9, true) :: (10, true) :: (11, true) :: (12, true) :: (13, true) :: (14, true) :: (15, true) :: (16, true) :: (17, true) :: []) (by as_aux_lemma => kernel_rfl) (by rfl) (base_cons (k := 12) (by go_simp; rfl) (base_cons (k := 16) (by go_simp; rfl) base_nil)) ?_ (fun _ _ _ _ _ h => h) (fun Q2 A hsz hbase hn2 hHeld => ?_)
      ·exact HC11.out
      try dsimp only at hHeld
      obtain ⟨b12, b16, -⟩ := hbase
      refine ord_move (i := 0) (d := 44) (v := ?_) rfl rfl rfl (wanted_none rfl) hHeld (fun ρ hρ => ?_) ?_
      rotate_left
      ·(have e12 := Eq.trans (hρ.tmp hsz 12 rfl) (lkp_base b12); exact e12)
      show wpOrd _ _ _ _ _ _ _ _
      refine ord_move (i := 1) (d := 45) (v := ?_) rfl rfl rfl (wanted_none rfl) hHeld (fun ρ hρ => ?_) ?_
      rotate_left
      ·(have e16 := Eq.trans (hρ.tmp hsz 16 rfl) (miss1 rfl (lkp_base b16)); exact e16)
      show wpOrd _ _ _ _ _ _ _ _
      refine ord_call (i := 2) (d := 46) (vs := ?_) rfl rfl rfl (wanted_none rfl) (fun ρ hρ => ?_) ?_ ?_
      rotate_left
      ·(have e44 := Eq.trans (hρ.tmp hsz 44 rfl) (miss1 rfl lkp_hit); have e45 := Eq.trans (hρ.tmp hsz 45 rfl) lkp_hit; simp only [List.map_toArray, List.map_cons, List.map_nil, e44, e45]; try with_reducible rfl)
      ·(intro w; go_simp)
      refine HCO.out.mono ?_
      rintro e w6 ⟨rfl, rfl⟩
      refine ⟨_, rfl, fun _ => ?_, fun hHeld' => ?_⟩
      ·exact HC11.out
      replace hHeld := hHeld' rfl
      clear hHeld'
      try dsimp only at hHeld
      show wpOrd _ _ _ _ _ _ _ _
      refine ord_take (i := 3) (d := 47) (v := ?_) rfl rfl (wanted_none rfl) hHeld (fun ρ hρ w hSw => ?_) ?_
      rotate_left
      ·(have e46 := Eq.trans (hρ.tmp hsz 46 rfl) lkp_hit; clear hρ; (try dsimp only at hSw); go_simp; try with_reducible rfl)
      show wpOrd _ _ _ _ _ _ _ _
      refine ord_move (i := 4) (d := 48) (v := ?_) rfl rfl rfl (wanted_none rfl) hHeld (fun ρ hρ => ?_) ?_
      rotate_left
      ·(have e47 := Eq.trans (hρ.tmp hsz 47 rfl) lkp_hit; exact e47)
      show wpOrd _ _ _ _ _ _ _ _
      refine ord_skip (i := 5) (d := 49) rfl rfl (wanted_no (j := 4) (dj := 48) (b := true) (b' := false) rfl hsz rfl rfl rfl lkp_hit rfl) hHeld ?_
      show wpOrd _ _ _ _ _ _ _ _
      refine ord_skip (i := 6) (d := 50) rfl rfl (wanted_no (j := 4) (dj := 48) (b := true) (b' := false) rfl hsz rfl rfl rfl (miss1 rfl lkp_hit) rfl) hHeld ?_
      show wpOrd _ _ _ _ _ _ _ _
      refine ord_skip (i := 7) (d := 51) rfl rfl (wanted_no (j := 4) (dj := 48) (b := true) (b' := false) rfl hsz rfl rfl rfl (miss1 rfl (miss1 rfl lkp_hit)) rfl) hHeld ?_
      show wpOrd _ _ _ _ _ _ _ _
      refine ord_skip (i := 8) (d := 52) rfl rfl (wanted_und (j := 7) (dj := 51) (b := false) rfl hsz rfl rfl rfl lkp_hit) hHeld ?_
      show wpOrd _ _ _ _ _ _ _ _
      refine ord_skip (i := 9) (d := 53) rfl rfl (wanted_und (j := 7) (dj := 51) (b := false) rfl hsz rfl rfl rfl (miss1 rfl lkp_hit)) hHeld ?_
      show wpOrd _ _ _ _ _ _ _ _
      refine ord_skip (i := 10) (d := 54) rfl rfl (wanted_und (j := 7) (dj := 51) (b := false) rfl hsz rfl rfl rfl (miss1 rfl (miss1 rfl lkp_hit))) hHeld ?_
      show wpOrd _ _ _ _ _ _ _ _
      refine ord_skip (i := 11) (d := 55) rfl rfl (wanted_und (j := 7) (dj := 51) (b := false) rfl hsz rfl rfl rfl (miss1 rfl (miss1 rfl (miss1 rfl lkp_hit)))) hHeld ?_
      show wpOrd _ _ _ _ _ _ _ _
      refine ord_skip (i := 12) (d := 56) rfl rfl (wanted_und (j := 7) (dj := 51) (b := false) rfl hsz rfl rfl rfl (miss4 rfl rfl rfl rfl lkp_hit)) hHeld ?_
      show wpOrd _ _ _ _ _ _ _ _
      refine ord_skip (i := 13) (d := 57) rfl rfl (wanted_und (j := 7) (dj := 51) (b := false) rfl hsz rfl rfl rfl (miss4 rfl rfl rfl rfl (miss1 rfl lkp_hit))) hHeld ?_
      show wpOrd _ _ _ _ _ _ _ _
      refine ord_skip (i := 14) (d := 58) rfl rfl (wanted_und (j := 7) (dj := 51) (b := false) rfl hsz rfl rfl rfl (miss4 rfl rfl rfl rfl (miss1 rfl (miss1 rfl lkp_hit)))) hHeld ?_
      show wpOrd _ _ _ _ _ _ _ _
      refine ord_skip (i := 15) (d := 59) rfl rfl (wanted_und (j := 7) (dj := 51) (b := false) rfl hsz rfl rfl rfl (miss4 rfl rfl rfl rfl (miss1 rfl (miss1 rfl (miss1 rfl lkp_hit))))) hHeld ?_
      show wpOrd _ _ _ _ _ _ _ _
      refine ord_skip (i := 16) (d := 60) rfl rfl (wanted_no (j := 4) (dj := 48) (b := true) (b' := false) rfl hsz rfl rfl rfl (miss4 rfl rfl rfl rfl (miss4 rfl rfl rfl rfl (miss1 rfl (miss1 rfl (miss1 rfl lkp_hit))))) rfl) hHeld ?_
      show wpOrd _ _ _ _ _ _ _ _
      refine ord_take (i := 17) (d := 61) (v := ?_) rfl rfl (wanted_none rfl) hHeld (fun ρ hρ w hSw => ?_) ?_
      rotate_left
      ·(have hc := hρ.const; have e48 := Eq.trans (hρ.tmp hsz 48 rfl) (miss4 rfl rfl rfl rfl (miss4 rfl rfl rfl rfl (miss4 rfl rfl rfl rfl lkp_hit))); have e60 := Eq.trans (hρ.tmp hsz 60 rfl) lkp_hit; clear hρ; (try dsimp only at hSw); go_simp; try with_reducible rfl)
      show wpOrd _ _ _ _ _ _ _ _
      refine ord_done hn2 ?_
      clear hHeld hn2 b12 b16 hsz A Q2
      simp only [puts_nil, puts_cons, put_lit, set_1, set_0]
      have HOQ : Hid (IntsO wr.drew w1.heap.size Ao mo co2 out) := hO.out
      have HHQ : Hid (IntsO wr.drew Bk (some ⟨b, off, none⟩) q cH (hzf s)) := hOH.out
      have HBQ : Hid (Below w1.heap.size w1 wr.drew) := hbl.out.drew
      have HZQ : Hid (B4 ≤ wr.drew.heap.size) := hz4.out
      clear hO hOH hbl hz4 HC11 HCO hch
      generalize World.drew wr = wq at *
      go_wp2_with fail
      go_roundg (q - (j + 1))
      case rel => exact ⟨j + 1, mo, co2, Ao, out, by go_num, rfl, by omega, rfl, HOQ, HHQ, HBQ, hap, HZQ, HP⟩
      case measure => omega
    ·obtain rfl : j = q := by omega
     have HD := Lib.hid (hin.out.done HQ.out hq7 HS.out)
     have hii : decide (j < j) = false := by simp
     go_wp2_with fail
     go_roundg (kR - (kk + 1))
     case rel => exact ⟨kk + 1, mo, co2, Ao, out, by go_num, rfl, by omega, rfl, hO, hbl, HD⟩
     case measure => omega
  ·obtain rfl : kk = kR := by omega
   have hii : decide (kk < kk) = false := by simp
   have hmo : mo ≤ 2000 := by have h1 := hin.out.1; have h2 := hO.out.len; omega
   go_wp2_with fail
   refine (sort_any Ao mo co2 w1.heap.size out wr hO.out (by omega)).mono ?_
   rintro e w5 ⟨rfl, hO5, hg5⟩
   have HBF : Hid (Below w.heap.size w w5) := (HB1.out.bl.trans (hbl.out.mono HB1.out.bl.size)).trans ⟨hg5.out.os, hg5.out.tape, hg5.out.output, hg5.out.size, fun q hq => hg5.out.block q (by have := hbl.out.size; omega) (fun e => by have := (hO.out.lt q e.symm).1; omega)⟩
   go_wp2_with fail
   go_ret2
   refine ⟨.inr ⟨H1.out, Ao, mo, co2, x, sortL out, by simpa using HX.out, rfl, hO5.out.mono hz1, sortL_nodup hin.out.2.1, sortL_sorted _, fun h => ?_⟩, HBF⟩
   rw [sortL_mem, hin.out.2.2 h, List.take_of_length_le (by rw [HLR.out]; exact Nat.le_refl _)]
   simp only [MayP, Int.toNat_natCast, HMD2.out, HHZ.out]
end Go.Proofs.YtnpfkiidhidjbaaGreatDoor
