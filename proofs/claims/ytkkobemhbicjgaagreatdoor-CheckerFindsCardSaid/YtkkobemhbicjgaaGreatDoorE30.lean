import Derived.Test.YtkkobemhbicjgaaGreatDoorE28
set_option maxRecDepth 100000
set_option maxHeartbeats 8000000
namespace Go.Proofs.YtkkobemhbicjgaaGreatDoor
open Go.RowKit
def oI (hz : List Int → List Int) (g : Int → Prop) (rows : List (List Int)) (k : Nat) (out : List Int) : Prop := out.length ≤ 7 * k ∧ out.Nodup ∧ ∀ h : Int, h ∈ out ↔ ∃ s ∈ rows.take k, h ∈ hz s ∧ g h
def uC (hz : List Int → List Int) (g : Int → Prop) (rows : List (List Int)) (k : Nat) (s : List Int) (j : Nat) (out : List Int) : Prop := out.length ≤ 7 * k + j ∧ out.Nodup ∧ ∀ h : Int, h ∈ out ↔ (∃ s ∈ rows.take k, h ∈ hz s ∧ g h) ∨ h ∈ (hz s).take j ∧ g h
section
variable {hz : List Int → List Int} {g : Int → Prop} {rows : List (List Int)} {k j : Nat} {s out : List Int} {x : Int}
theorem oI.start : oI hz g rows 0 [] := ⟨by simp, List.nodup_nil, fun h => by simp⟩
theorem oI.two (h : oI hz g rows k out) : uC hz g rows k s 0 out := ⟨by have := h.1; omega, h.2.1, fun y => by rw [h.2.2 y]; simp⟩
theorem uC.pass (h : uC hz g rows k s j out) (hx : (hz s)[j]? = some x) (hm : x ∈ out ∨ ¬ g x) : uC hz g rows k s (j + 1) out := by
 refine ⟨by have := h.1; omega, h.2.1, fun y => ?_⟩
 rw [zQ hx, List.mem_append, List.mem_singleton]
 constructor
 ·intro hy
  rcases (h.2.2 y).1 hy with h1 | h1
  ·exact .inl h1
  ·exact .inr ⟨.inl h1.1, h1.2⟩
 ·rintro (h1 | ⟨h1 | h1, h2⟩)
  ·exact (h.2.2 y).2 (.inl h1)
  ·exact (h.2.2 y).2 (.inr ⟨h1, h2⟩)
  ·subst h1
   rcases hm with hm | hm
   ·exact hm
   ·exact absurd h2 hm
theorem uC.put (h : uC hz g rows k s j out) (hx : (hz s)[j]? = some x) (hm : x ∉ out) (hg : g x) : uC hz g rows k s (j + 1) (out ++ [x]) := by
 refine ⟨by have := h.1; rw [List.length_append, List.length_singleton]; omega, ?_, fun y => ?_⟩
 ·rw [List.nodup_append]
  exact ⟨h.2.1, by simp, fun a ha b hb e => hm (by rw [List.mem_singleton.1 hb] at e; rw [← e]; exact ha)⟩
 ·rw [zQ hx, List.mem_append, List.mem_append, List.mem_singleton, h.2.2 y]
  constructor
  ·rintro ((h1 | h1) | rfl)
   ·exact .inl h1
   ·exact .inr ⟨.inl h1.1, h1.2⟩
   ·exact .inr ⟨.inr rfl, hg⟩
  ·rintro (h1 | ⟨h1 | h1, h2⟩)
   ·exact .inl (.inl h1)
   ·exact .inl (.inr ⟨h1, h2⟩)
   ·exact .inr h1
theorem uC.done (h : uC hz g rows k s j out) (hj : (hz s).length = j) (h7 : j ≤ 7) (hs : rows[k]? = some s) : oI hz g rows (k + 1) out := by
 refine ⟨by have := h.1; omega, h.2.1, fun y => ?_⟩
 rw [h.2.2 y, show (hz s).take j = hz s from List.take_of_length_le (by omega), zQ hs]
 constructor
 ·rintro (⟨t, ht, h1⟩ | h1)
  ·exact ⟨t, List.mem_append_left _ ht, h1⟩
  ·exact ⟨s, by simp, h1⟩
 ·rintro ⟨t, ht, h1⟩
  rcases List.mem_append.1 ht with h2 | h2
  ·exact .inl ⟨t, h2, h1⟩
  ·rw [List.mem_singleton.1 h2] at h1; exact .inr h1
end
def eI (w1 : World) (F : Nat → List Int → Prop) (n gk : Nat) (ov iv : Value) (wr : World) : Prop := ∃ (k mo co : Nat) (Ao : Option Addr) (out : List Int), iv = .int .i64 k ∧ ov = .slice Ao mo co ∧ k ≤ n ∧ gk = n - k ∧ Hid (zO wr w1.heap.size Ao mo co out) ∧ Hid (Below w1.heap.size w1 wr) ∧ Hid (F k out)
def eH (w1 : World) (B4 Bk : Nat) (AH : Option Addr) (q cH : Nat) (H : List Int) (F : Nat → List Int → Prop) (gk : Nat) (ov iv : Value) (wr : World) : Prop := ∃ (j mo co : Nat) (Ao : Option Addr) (out : List Int), iv = .int .i64 j ∧ ov = .slice Ao mo co ∧ j ≤ q ∧ gk = q - j ∧ Hid (zO wr w1.heap.size Ao mo co out) ∧ Hid (zO wr Bk AH q cH H) ∧ Hid (Below w1.heap.size w1 wr) ∧ Hid (∀ g, (Value.slice Ao mo co).ownBlock = some g → g < Bk ∨ B4 ≤ g) ∧ Hid (B4 ≤ wr.heap.size) ∧ Hid (F j out)
theorem rS {A1 A2 : Option Addr} {n1 c1 n2 c2 B4 Bk : Nat} (h1 : ∀ g, (Value.slice A1 n1 c1).ownBlock = some g → g < Bk ∨ B4 ≤ g) (h2 : ∀ g, (Value.slice A2 n2 c2).ownBlock = some g → Bk ≤ g ∧ g < B4) : (Value.slice A2 n2 c2).ownBlock = none ∨ (Value.slice A2 n2 c2).ownBlock ≠ (Value.slice A1 n1 c1).ownBlock := by
 cases h : (Value.slice A2 n2 c2).ownBlock with
 | none => exact .inl rfl
 | some g =>
  refine .inr fun e => ?_
  have := h1 g e.symm
  have := h2 g h
  omega
def gp (ns : List Nd) (ds : List Dv) (m : List Int) (d p co : Int) (ls : List Lk) (pr : List Int) (x : Dv) (out : List Int) : Prop := jo (hX ns.length ns ds (yM m) (m.getD d.toNat 0) d.toNat p co ls pr x) out
def mh (w : World) (ns : List Nd) (ds : List Dv) (m : List Int) (d p co : Int) (ls : List Lk) (pr : List Int) (e : Ending) (w' : World) : Prop :=
 (yh ns ds m d p co ≠ 0 ∧ e = .returned (.tuple #[.slice none 0 0, .int .i64 (yh ns ds m d p co)]) ∨ yh ns ds m d p co = 0 ∧ ∃ (A : Option Addr) (k c : Nat) (x : Dv) (out : List Int), ds[d.toNat]? = some x ∧ e = .returned (.tuple #[.slice A k c, .int .i64 0]) ∧ Hid (zO w' w.heap.size A k c out) ∧ Hid (gp ns ds m d p co ls pr x out)) ∧ Hid (Below w.heap.size w w')
theorem rM {ns : List Nd} {ds : List Dv} {m : List Int} {d p co : Int} (h : yh ns ds m d p co = 0) : zU ns ds m = 0 ∧ yc ds.length d p co = 0 ∧ yL m = 0 := by
 unfold yh at h
 split at h
 ·next h1 =>
  split at h
  ·next h2 => exact ⟨h1, h2, h⟩
  ·next h2 => exact absurd h h2
 ·next h1 => exact absurd h h1
theorem vx {ns : List Nd} {ds : List Dv} {m s : List Int} (h : zU ns ds m = 0) (hs : s ∈ yM m) : zN ns ds s = 0 := by
 obtain ⟨h1, h2, h3⟩ := zV h
 obtain ⟨h4, h5⟩ := (xr m m.length s).1 hs
 unfold zN
 rw [if_neg (by simp [h1]), if_neg (by omega), if_pos]
 intro p hp
 obtain ⟨i, hi, rfl⟩ := List.getElem_of_mem hp
 have hs' : s[i]? = some s[i] := List.getElem?_eq_getElem hi
 have him : i < m.length := by omega
 obtain ⟨h6, h7⟩ := h5 i him
 by_cases h8 : m[i]? = some 3
 ·rcases h6 h8 with h9 | h9 <;> rw [hs'] at h9 <;> injection h9 with h9 <;> rw [h9] <;> rfl
 ·have h9 := h7 h8
  rw [hs'] at h9
  injection h9 with h9
  have h10 := h3 (m[i]'him) (List.getElem_mem him)
  rw [List.getElem?_eq_getElem him] at h8
  have h11 : m.getD i 0 = m[i]'him := by rw [List.getD_eq_getElem?_getD, List.getElem?_eq_getElem him]; rfl
  rw [h11] at h9
  rw [h9]
  have h12 : m[i]'him ≠ 3 := fun e => h8 (by rw [e])
  simp [zj, posB] at h10 ⊢
  omega
theorem rj {m : List Int} (h : yL m = 0) : (yM m).length ≤ 256 := by
 unfold yL at h
 split at h
 ·split at h
  ·cases h
  ·next h1 =>
   unfold yM
   rw [uq]
   exact Nat.le_trans (Nat.pow_le_pow_right (n := 2) (by decide) (show _ ≤ 8 by omega)) (by decide)
 ·cases h
theorem iz (An Ad As Al Ap : Option Addr) (nn cn nd cd n c nl cl np cp : Nat) (ns : List Nd) (ds : List Dv) (m : List Int) (ls : List Lk) (pr : List Int) (d p co : Int) (w : World) (h : yX w An Ad As Al Ap nn cn nd cd n c nl cl np cp ns ds m ls pr) :
 Calls Tryz.prog 142 #[.agg #[.slice An nn cn, .slice Ad nd cd], .slice As n c, .agg #[.int .i64 d, .int .i64 p], .agg #[.int .i64 co, .slice Al nl cl, .slice Ap np cp]] w (mh w ns ds m d p co ls pr) := by
 obtain ⟨hln, hld, hls⟩ := h.ln
 subst hln
 have hndm := h.hd.le; have hsm := h.hs.le
 have HB := iD (Bx3.new w #[.slice An ns.length cn, .slice Ad nd cd] #[.int .i64 d, .int .i64 p] #[.int .i64 co, .slice Al nl cl, .slice Ap np cp])
 have HH := iD h
 clear h
 go_enter Tryz.func142, Tryz.ntmps142
 go_wp2_with fail
 generalize World.alloc (World.alloc (World.alloc w _) _) _ = W at *
 have HM := iD (HH.out.below HB.out.bl)
 refine (oU An Ad As Al Ap ns.length cn nd cd n c nl cl np cp ns ds m ls pr d p co W HM.out).mono ?_
 rintro e w1 ⟨⟨h1, rfl⟩ | ⟨h1, AR, kR, cR, rfl, hR⟩, hb1⟩
 ·have H1 := iD h1
  have q : (yh ns ds m d p co != 0) = true := by simpa using h1
  have HB1 := iD (HB.out.later hb1.out)
  clear h1 hb1 HB HM
  go_wp2_with fail
  go_ret2
  exact ⟨.inl ⟨H1.out, rfl⟩, HB1.out.bl⟩
 have HB1 := iD (HB.out.later hb1.out)
 have HM1 := iD (HH.out.below HB1.out.bl)
 have H1 := iD h1
 have HLR := iD hR.out.len
 have hkR : kR ≤ 256 := by have := rj (rM h1).2.2; have := hR.out.len; omega
 have hRl := hR.out.le
 obtain ⟨hmk, hze, hce⟩ := rM h1
 obtain ⟨hd, hp, hco⟩ := pf hze
 have HMK := iD hmk; have HZE := iD hze
 have hsl : m.length = ds.length := (zV hmk).2.1
 obtain ⟨k, rfl⟩ := Int.eq_ofNat_of_zero_le hd.1
 have hk : k < ds.length := by omega
 obtain ⟨x, hx⟩ : ∃ x, ds[k]? = some x := ⟨_, List.getElem?_eq_getElem hk⟩
 have HX := iD hx
 clear HB HM hb1 hce hmk hze hx h1
 obtain ⟨hzf, hhz⟩ : ∃ f : List Int → List Int, f = fun s => xu ns.length ns ds s k p co ls pr x := ⟨_, rfl⟩
 have HHZ := iD hhz
 have HH7 : Hid (∀ s, (hzf s).length ≤ 7) := fun s => by rw [hhz]; exact jT _ _ _ _ _ _ _ _ _ _
 clear hhz
 obtain ⟨md, hmd⟩ : ∃ y, m.getD k 0 = y := ⟨_, rfl⟩
 have HMD : Hid (m[k]? = some md) := by
  unfold Hid
  rw [← hmd, List.getD_eq_getElem?_getD, List.getElem?_eq_getElem (by omega)]; rfl
 have HMD2 := iD hmd
 clear hmd
 obtain ⟨bs, of2, md', rfl, hbs, hmd', hcm⟩ := HM1.out.hs.at1 (k := k) (by omega)
 obtain rfl : md = md' := by have := HMD.out; rw [this] at hmd'; exact Option.some.inj hmd'
 have HMC := iD hcm
 clear hcm hmd'
 have hz1 := HB1.out.bl.size
 go_wp2_with fail
 go_loopg [12, 30] kR (eI w1 (oI hzf (fun h => h ≠ 7 ∨ md = p) (yM m)) kR)
 case atStart => exact ⟨0, 0, 0, none, [], rfl, rfl, Nat.zero_le _, rfl, World.ownsRow_nil _ _ _ _, Below.refl _ _, oI.start⟩
 case round =>
  obtain ⟨kk, mo, co2, Ao, out, rfl, rfl, hkk, rfl, hO, hbl, hin⟩ := hrel
  by_cases hlt : kk < kR
  ·obtain ⟨br, ofr, s, As2, cs2, rfl, hbr, hs, hcr, hsr⟩ := (hR.out.below hbl.out lR).at hlt
   have HSE : Hid (zN ns ds s = 0) := vx HMK.out (List.mem_of_getElem? hs)
   have HS := iD hs
   have HBr := iD (HB1.out.later hbl.out)
   have HMr := iD (HM1.out.below hbl.out)
   have HSR := iD (hsr.more hbl.out.size)
   obtain ⟨⟨k0, k1⟩, ⟨o0, o1⟩, g0, g1, g2⟩ := HBr.out.cells
   clear hs hsr
   go_upto_region 8 with (fail)
   clear hcr
   obtain ⟨x', hx', hinn⟩ := gI (s := s) (As := As2) (n := s.length) (c := cs2) ⟨HMr.out.hn, HMr.out.hd, HSR.out, HMr.out.hl, HMr.out.hp, HMr.out.la, HMr.out.sn, HMr.out.sd⟩ HSE.out (show yc nd (k : Int) p co = 0 by rw [← hld]; exact HZE.out)
   simp only [Int.toNat_natCast] at hx' hinn
   obtain rfl : x = x' := by have := HX.out; rw [this] at hx'; exact Option.some.inj hx'
   rw [show xu ns.length ns ds s k p co ls pr x = hzf s by rw [HHZ.out]] at hinn
   have HIN := iD hinn
   clear hinn hx'
   go_wp2_with fail
   clear k0 k1 o0 o1 g0 g1 g2
   refine HIN.out.mono ?_
   rintro e w4 ⟨AH, cH, rfl, hOH, hb4⟩
   obtain ⟨q, hq⟩ : ∃ q, (hzf s).length = q := ⟨_, rfl⟩
   have hq7 : q ≤ 7 := by rw [← hq]; exact HH7.out s
   rw [hq] at hOH ⊢
   have HQ := iD hq
   obtain ⟨Bk, hBk⟩ : ∃ x, x = wr.heap.size := ⟨_, rfl⟩
   obtain ⟨B4, hB4⟩ : ∃ x, x = w4.heap.size := ⟨_, rfl⟩
   have HO4 := iD (hO.out.later hb4.out)
   have HBL4 := iD (hbl.out.trans (hb4.out.mono hbl.out.size))
   have HAP : Hid (∀ g, (Value.slice Ao mo co2).ownBlock = some g → g < Bk ∨ B4 ≤ g) := fun g h => .inl (by rw [hBk]; exact (hO.out.lt g h).2)
   have HHL : Hid (∀ g, (Value.slice AH q cH).ownBlock = some g → Bk ≤ g ∧ g < B4) := fun g h => by rw [hBk, hB4]; exact hOH.out.lt g h
   have HB44 : Hid (B4 ≤ w4.heap.size) := by unfold Hid; omega
   have HIN2 := iD (oI.two (s := s) hin.out)
   rw [← hBk] at hOH
   have hB14 : w1.heap.size ≤ B4 := by rw [hB4]; exact HBL4.out.size
   clear hO hbl hin hb4 HIN hq hB4 hBk HBr HMr HSR HSE
   go_wp2_with fail
   go_loopg [12, 40] q (eH w1 B4 Bk AH q cH (hzf s) (uC hzf (fun h => h ≠ 7 ∨ md = p) (yM m) kk s))
   case atStart => exact ⟨0, mo, co2, Ao, out, rfl, rfl, Nat.zero_le _, rfl, HO4, hOH, HBL4, HAP, HB44, HIN2⟩
   case round =>
    clear HO4 hOH HBL4 HAP HB44 HIN2
    clear mo co2 Ao out
    obtain ⟨j, mo, co2, Ao, out, rfl, rfl, hj, rfl, hO, hOH, hbl, hap, hz4, hin⟩ := hrel
    by_cases hjl : j < q
    ·obtain ⟨b, off, xh, rfl, hb, hxh, hch⟩ := hOH.out.sl.at1 hjl
     have HBr := iD (HB1.out.later hbl.out)
     have HC11 : Hid ((wr.cell? ⟨w.heap.size + 1, 0, none⟩ = some (.int .i64 k) ∧ wr.cell? ⟨w.heap.size + 1, 1, none⟩ = some (.int .i64 p)) ∧ wr.cell? ⟨bs, of2 + k, none⟩ = some (.int .i64 md)) := ⟨HBr.out.cells.2.1, (hbl.out.cell (p := ⟨bs, of2 + k, none⟩) hbs).trans HMC.out⟩
     have HCO := iD (xG Ao mo co2 wr.heap.size out xh wr.drew hO.out.sl)
     have HXH := iD hxh
     have hmo : mo ≤ 2000 := by have h1 := hin.out.1; have h2 := hO.out.len; omega
     have hcl := hO.out.sl.le
     have hkn : k < n := by omega
     clear hxh HBr
     go_upto_region 11 with (fail)
     rcases hm : xv out xh with _ | _
     ·rw [hm] at HCO
      have HN := iD ((uh _ _).1 hm)
      clear hm
      by_cases h7 : xh = 7
      ·subst h7
       by_cases hmp : md = p
       ·have qp : (md == p) = true := by simpa using hmp
        have HP := iD (hin.out.put HXH.out HN.out (.inr hmp))
        refine zC (S := fun W' => ((W'.cell? ⟨w.heap.size + 1, 0, none⟩ = some (.int .i64 k) ∧ W'.cell? ⟨w.heap.size + 1, 1, none⟩ = some (.int .i64 p)) ∧ W'.cell? ⟨bs, of2 + k, none⟩ = some (.int .i64 md))) (J := []) (by kernel_rfl) ?_ (fun AA => ?_)
        ·exact HC11.out
        try dsimp only at AA
        refine tk 0 44 (mf 18 1) AA ?_
        refine tk 1 45 (mf 18 2) AA ?_
        refine tb 2 (mf 18 3) fun K hK => ?_
        (go_simp; refine HCO.out.mono ?_; rintro e w6 ⟨rfl, rfl⟩; go_simp)
        refine hK.out _ _ (fun _ => ?_) (fun AA' => ?_)
        ·exact HC11.out
        replace AA := AA' rfl
        clear AA' hK K
        try dsimp only at AA
        refine tk 3 47 (mf 18 4) AA ?_
        refine tk 4 48 (mf 18 5) AA ?_
        refine tk 5 49 (mf 18 6) AA ?_
        refine tk 6 50 (mf 18 7) AA ?_
        refine tk 7 51 (mf 18 8) AA ?_
        refine tk 8 52 (mf 18 9) AA ?_
        refine tk 9 53 (mf 18 10) AA ?_
        refine tk 10 54 (mf 18 11) AA ?_
        refine tk 11 55 (mf 18 12) AA ?_
        refine tk 12 56 (mf 18 13) AA ?_
        refine tk 13 57 (mf 18 14) AA ?_
        refine tk 14 58 (mf 18 15) AA ?_
        refine tk 15 59 (mf 18 16) AA ?_
        refine tk 16 60 (mf 18 17) AA ?_
        refine tk 17 61 (mf 18 18) AA ?_
        refine zA (by kernel_rfl) ?_ _
        have HOQ : Hid (zO wr.drew w1.heap.size Ao mo co2 out) := hO.out
        have HHQ : Hid (zO wr.drew Bk (some ⟨b, off, none⟩) q cH (hzf s)) := hOH.out
        have HBQ : Hid (Below w1.heap.size w1 wr.drew) := hbl.out.drew
        have HZQ : Hid (B4 ≤ wr.drew.heap.size) := hz4.out
        clear hO hOH hbl hz4 HC11 HCO hch
        generalize World.drew wr = wq at *
        go_wp2_with (at_builtin; go_must (refine zR rfl (.tmp 62) (.tmp 64) rfl xF (by rfl) (HOQ.out.alloc _) (by rfl) (Sl.newest (n := 1) (by simp) (by rfl) (by decide)) (by simp [Value.oneCell']) (by omega) (by omega) (by have := HBQ.out.size; simp; omega) ?_; intro A' cap' w7 hown7 hgr7 hat7; have HO7 := iD hown7; have HG7 := iD hgr7; have HA7 := iD hat7; clear hown7 hgr7 hat7))
        go_roundg (q - (j + 1))
        case rel =>
         refine ⟨j + 1, mo + 1, cap', A', out ++ [7], by go_num, rfl, by omega, rfl, ?_, ?_, ?_, ?_, ?_, HP⟩
         ·have := HO7.out
          unfold Hid zO
          rw [zq]
          exact this
         ·exact (HHQ.out.alloc _).kept HG7.out (rS hap.out HHL.out)
         ·refine (HBQ.out.alloc HBQ.out.size _).trans ⟨HG7.out.os, HG7.out.tape, HG7.out.output, HG7.out.size, fun i hi => HG7.out.block i (by have := HBQ.out.size; simp; omega) (fun e => ?_)⟩
          have := (HOQ.out.lt i e.symm).1
          omega
         ·intro gq hgq
          rcases HA7.out with e | e
          ·exact hap.out gq (by rw [← e]; exact hgq)
          ·rw [e] at hgq
           simp at hgq
           have := HZQ.out
           exact .inr (by omega)
         ·have h1 := HG7.out.size; have h2 := HZQ.out
          unfold Hid
          simp at h1
          omega
        case measure => omega
       ·have qp : (md == p) = false := by simpa using hmp
        have HP := iD (hin.out.pass HXH.out (.inr fun h => by rcases h with h | h; exact h rfl; exact hmp h))
        refine zC (S := fun W' => ((W'.cell? ⟨w.heap.size + 1, 0, none⟩ = some (.int .i64 k) ∧ W'.cell? ⟨w.heap.size + 1, 1, none⟩ = some (.int .i64 p)) ∧ W'.cell? ⟨bs, of2 + k, none⟩ = some (.int .i64 md))) (J := []) (by kernel_rfl) ?_ (fun AA => ?_)
        ·exact HC11.out
        try dsimp only at AA
        refine tk 0 44 (mf 18 1) AA ?_
        refine tk 1 45 (mf 18 2) AA ?_
        refine tb 2 (mf 18 3) fun K hK => ?_
        (go_simp; refine HCO.out.mono ?_; rintro e w6 ⟨rfl, rfl⟩; go_simp)
        refine hK.out _ _ (fun _ => ?_) (fun AA' => ?_)
        ·exact HC11.out
        replace AA := AA' rfl
        clear AA' hK K
        try dsimp only at AA
        refine tk 3 47 (mf 18 4) AA ?_
        refine tk 4 48 (mf 18 5) AA ?_
        refine tk 5 49 (mf 18 6) AA ?_
        refine tk 6 50 (mf 18 7) AA ?_
        refine tk 7 51 (mf 18 8) AA ?_
        refine tk 8 52 (mf 18 9) AA ?_
        refine tk 9 53 (mf 18 10) AA ?_
        refine tk 10 54 (mf 18 11) AA ?_
        refine tk 11 55 (mf 18 12) AA ?_
        refine tk 12 56 (mf 18 13) AA ?_
        refine tk 13 57 (mf 18 14) AA ?_
        refine tk 14 58 (mf 18 15) AA ?_
        refine tk 15 59 (mf 18 16) AA ?_
        refine tk 16 60 (mf 18 17) AA ?_
        refine tk 17 61 (mf 18 18) AA ?_
        refine zA (by kernel_rfl) ?_ _
        have HOQ : Hid (zO wr.drew w1.heap.size Ao mo co2 out) := hO.out
        have HHQ : Hid (zO wr.drew Bk (some ⟨b, off, none⟩) q cH (hzf s)) := hOH.out
        have HBQ : Hid (Below w1.heap.size w1 wr.drew) := hbl.out.drew
        have HZQ : Hid (B4 ≤ wr.drew.heap.size) := hz4.out
        clear hO hOH hbl hz4 HC11 HCO hch
        generalize World.drew wr = wq at *
        go_wp2_with fail
        go_roundg (q - (j + 1))
        case rel => exact ⟨j + 1, mo, co2, Ao, out, by go_num, rfl, by omega, rfl, HOQ, HHQ, HBQ, hap, HZQ, HP⟩
        case measure => omega
      ·have q7 : (xh != 7) = true := by simpa using h7
       have HP := iD (hin.out.put HXH.out HN.out (.inl h7))
       refine zC (S := fun W' => ((W'.cell? ⟨w.heap.size + 1, 0, none⟩ = some (.int .i64 k) ∧ W'.cell? ⟨w.heap.size + 1, 1, none⟩ = some (.int .i64 p)) ∧ W'.cell? ⟨bs, of2 + k, none⟩ = some (.int .i64 md))) (J := []) (by kernel_rfl) ?_ (fun AA => ?_)
       ·exact HC11.out
       try dsimp only at AA
       refine tk 0 44 (mf 18 1) AA ?_
       refine tk 1 45 (mf 18 2) AA ?_
       refine tb 2 (mf 18 3) fun K hK => ?_
       (go_simp; refine HCO.out.mono ?_; rintro e w6 ⟨rfl, rfl⟩; go_simp)
       refine hK.out _ _ (fun _ => ?_) (fun AA' => ?_)
       ·exact HC11.out
       replace AA := AA' rfl
       clear AA' hK K
       try dsimp only at AA
       refine tk 3 47 (mf 18 4) AA ?_
       refine tk 4 48 (mf 18 5) AA ?_
       refine tk 5 49 (mf 18 6) AA ?_
       refine tk 6 50 (mf 18 7) AA ?_
       refine tk 7 51 (mf 18 8) AA ?_
       refine ts 8 52 (mf 18 9) AA ?_
       refine ts 9 53 (mf 18 10) AA ?_
       refine ts 10 54 (mf 18 11) AA ?_
       refine ts 11 55 (mf 18 12) AA ?_
       refine ts 12 56 (mf 18 13) AA ?_
       refine ts 13 57 (mf 18 14) AA ?_
       refine ts 14 58 (mf 18 15) AA ?_
       refine ts 15 59 (mf 18 16) AA ?_
       refine tk 16 60 (mf 18 17) AA ?_
       refine tk 17 61 (mf 18 18) AA ?_
       refine zA (by kernel_rfl) ?_ _
       have HOQ : Hid (zO wr.drew w1.heap.size Ao mo co2 out) := hO.out
       have HHQ : Hid (zO wr.drew Bk (some ⟨b, off, none⟩) q cH (hzf s)) := hOH.out
       have HBQ : Hid (Below w1.heap.size w1 wr.drew) := hbl.out.drew
       have HZQ : Hid (B4 ≤ wr.drew.heap.size) := hz4.out
       clear hO hOH hbl hz4 HC11 HCO hch
       generalize World.drew wr = wq at *
       go_wp2_with (at_builtin; go_must (refine zR rfl (.tmp 62) (.tmp 64) rfl xF (by rfl) (HOQ.out.alloc _) (by rfl) (Sl.newest (n := 1) (by simp) (by rfl) (by decide)) (by simp [Value.oneCell']) (by omega) (by omega) (by have := HBQ.out.size; simp; omega) ?_; intro A' cap' w7 hown7 hgr7 hat7; have HO7 := iD hown7; have HG7 := iD hgr7; have HA7 := iD hat7; clear hown7 hgr7 hat7))
       go_roundg (q - (j + 1))
       case rel =>
        refine ⟨j + 1, mo + 1, cap', A', out ++ [xh], by go_num, rfl, by omega, rfl, ?_, ?_, ?_, ?_, ?_, HP⟩
        ·have := HO7.out
         unfold Hid zO
         rw [zq]
         exact this
        ·exact (HHQ.out.alloc _).kept HG7.out (rS hap.out HHL.out)
        ·refine (HBQ.out.alloc HBQ.out.size _).trans ⟨HG7.out.os, HG7.out.tape, HG7.out.output, HG7.out.size, fun i hi => HG7.out.block i (by have := HBQ.out.size; simp; omega) (fun e => ?_)⟩
         have := (HOQ.out.lt i e.symm).1
         omega
        ·intro gq hgq
         rcases HA7.out with e | e
         ·exact hap.out gq (by rw [← e]; exact hgq)
         ·rw [e] at hgq
          simp at hgq
          have := HZQ.out
          exact .inr (by omega)
        ·have h1 := HG7.out.size; have h2 := HZQ.out
         unfold Hid
         simp at h1
         omega
       case measure => omega
     ·rw [hm] at HCO
      have HP := iD (hin.out.pass HXH.out (.inl ((pi _ _).1 hm)))
      clear hm
      refine zC (S := fun W' => ((W'.cell? ⟨w.heap.size + 1, 0, none⟩ = some (.int .i64 k) ∧ W'.cell? ⟨w.heap.size + 1, 1, none⟩ = some (.int .i64 p)) ∧ W'.cell? ⟨bs, of2 + k, none⟩ = some (.int .i64 md))) (J := []) (by kernel_rfl) ?_ (fun AA => ?_)
      ·exact HC11.out
      try dsimp only at AA
      refine tk 0 44 (mf 18 1) AA ?_
      refine tk 1 45 (mf 18 2) AA ?_
      refine tb 2 (mf 18 3) fun K hK => ?_
      (go_simp; refine HCO.out.mono ?_; rintro e w6 ⟨rfl, rfl⟩; go_simp)
      refine hK.out _ _ (fun _ => ?_) (fun AA' => ?_)
      ·exact HC11.out
      replace AA := AA' rfl
      clear AA' hK K
      try dsimp only at AA
      refine tk 3 47 (mf 18 4) AA ?_
      refine tk 4 48 (mf 18 5) AA ?_
      refine ts 5 49 (mf 18 6) AA ?_
      refine ts 6 50 (mf 18 7) AA ?_
      refine ts 7 51 (mf 18 8) AA ?_
      refine ts 8 52 (mf 18 9) AA ?_
      refine ts 9 53 (mf 18 10) AA ?_
      refine ts 10 54 (mf 18 11) AA ?_
      refine ts 11 55 (mf 18 12) AA ?_
      refine ts 12 56 (mf 18 13) AA ?_
      refine ts 13 57 (mf 18 14) AA ?_
      refine ts 14 58 (mf 18 15) AA ?_
      refine ts 15 59 (mf 18 16) AA ?_
      refine ts 16 60 (mf 18 17) AA ?_
      refine tk 17 61 (mf 18 18) AA ?_
      refine zA (by kernel_rfl) ?_ _
      have HOQ : Hid (zO wr.drew w1.heap.size Ao mo co2 out) := hO.out
      have HHQ : Hid (zO wr.drew Bk (some ⟨b, off, none⟩) q cH (hzf s)) := hOH.out
      have HBQ : Hid (Below w1.heap.size w1 wr.drew) := hbl.out.drew
      have HZQ : Hid (B4 ≤ wr.drew.heap.size) := hz4.out
      clear hO hOH hbl hz4 HC11 HCO hch
      generalize World.drew wr = wq at *
      go_wp2_with fail
      go_roundg (q - (j + 1))
      case rel => exact ⟨j + 1, mo, co2, Ao, out, by go_num, rfl, by omega, rfl, HOQ, HHQ, HBQ, hap, HZQ, HP⟩
      case measure => omega
    ·obtain rfl : j = q := by omega
     have HD := iD (hin.out.done HQ.out hq7 HS.out)
     have hii : decide (j < j) = false := by simp
     go_wp2_with fail
     go_roundg (kR - (kk + 1))
     case rel => exact ⟨kk + 1, mo, co2, Ao, out, by go_num, rfl, by omega, rfl, hO, hbl, HD⟩
     case measure => omega
  ·obtain rfl : kk = kR := by omega
   have hii : decide (kk < kk) = false := by simp
   have hmo : mo ≤ 2000 := by have h1 := hin.out.1; have h2 := hO.out.len; omega
   go_wp2_with fail
   refine (qz Ao mo co2 w1.heap.size out wr hO.out (by omega)).mono ?_
   rintro e w5 ⟨rfl, hO5, hg5⟩
   have HBF : Hid (Below w.heap.size w w5) := (HB1.out.bl.trans (hbl.out.mono HB1.out.bl.size)).trans ⟨hg5.out.os, hg5.out.tape, hg5.out.output, hg5.out.size, fun q hq => hg5.out.block q (by have := hbl.out.size; omega) (fun e => by have := (hO.out.lt q e.symm).1; omega)⟩
   go_wp2_with fail
   go_ret2
   refine ⟨.inr ⟨H1.out, Ao, mo, co2, x, xi out, by simpa using HX.out, rfl, hO5.out.mono hz1, pA hin.out.2.1, uT _, fun h => ?_⟩, HBF⟩
   rw [mq, hin.out.2.2 h, List.take_of_length_le (by rw [HLR.out]; exact Nat.le_refl _)]
   simp only [hX, Int.toNat_natCast, HMD2.out, HHZ.out]
end Go.Proofs.YtkkobemhbicjgaaGreatDoor
