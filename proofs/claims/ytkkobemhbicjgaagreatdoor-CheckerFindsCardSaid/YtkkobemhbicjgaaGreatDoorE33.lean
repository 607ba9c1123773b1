import Derived.Test.YtkkobemhbicjgaaGreatDoorE32
set_option maxRecDepth 100000
set_option maxHeartbeats 16000000
namespace Go.Proofs.YtkkobemhbicjgaaGreatDoor
section
open Go.RowKit
theorem Sl.ne2 {w : World} {B size n c x i : Nat} {A : Option Addr} {xs : List Value} {u : Value} (h : Sl w B size A n c xs) (hx : ∀ b off, A = some ⟨b, off, none⟩ → b < B → b ≠ x) : Sl (w.setCell ⟨x, i, none⟩ u) B size A n c xs :=
 ⟨h.1, h.2.1, h.2.2.1, h.2.2.2.1, fun hn => by
  obtain ⟨b, off, rfl, hb, hc⟩ := h.2.2.2.2 hn
  exact ⟨b, off, rfl, hb, fun j v hv => (World.cell?_setCell_far w ⟨x, i, none⟩ ⟨b, off + j, none⟩ u (fun e => hx b off rfl hb e.symm)).trans (hc j v hv)⟩⟩
theorem Blk.drw {w : World} {g : Nat} {t : TypeId} {cs : Array Value} (h : Blk w g t cs) : Blk w.drew g t cs := h.below (Below.refl w.heap.size w).drew h.lt
def Off (w : World) (x : Nat) (A : Option Addr) : Prop := ∀ b off, A = some ⟨b, off, none⟩ → b < w.heap.size → b ≠ x
structure fS (w : World) (x : Nat) (A1 A2 Al Ap : Option Addr) : Prop where
 h : Off w x A1
 s : Off w x A2
 l : Off w x Al
 p : Off w x Ap
theorem yZ.set3 {w : World} {A1 A2 Al Ap : Option Addr} {n1 c1 n2 c2 nl cl np cp x : Nat} {o : So} {a b d : Value} (h : yZ w A1 A2 Al Ap n1 c1 n2 c2 nl cl np cp o) (hx : fS w x A1 A2 Al Ap) : yZ (((w.setCell ⟨x, 0, none⟩ a).setCell ⟨x, 1, none⟩ b).setCell ⟨x, 2, none⟩ d) A1 A2 Al Ap n1 c1 n2 c2 nl cl np cp o :=
 ⟨(((h.h.ne2 hx.h).ne2 hx.h).ne2 hx.h).more (by simp [World.setCell]), (((h.s.ne2 hx.s).ne2 hx.s).ne2 hx.s).more (by simp [World.setCell]), (((h.l.ne2 hx.l).ne2 hx.l).ne2 hx.l).more (by simp [World.setCell]), (((h.p.ne2 hx.p).ne2 hx.p).ne2 hx.p).more (by simp [World.setCell])⟩
theorem yZ.later {w w' : World} {A1 A2 Al Ap : Option Addr} {n1 c1 n2 c2 nl cl np cp : Nat} {o : So} (h : yZ w A1 A2 Al Ap n1 c1 n2 c2 nl cl np cp o) (hb : Below w.heap.size w w') : yZ w' A1 A2 Al Ap n1 c1 n2 c2 nl cl np cp o :=
 ⟨(h.h.below hb lR).more hb.size, (h.s.below hb lR).more hb.size, (h.l.below hb lR).more hb.size, (h.p.below hb lR).more hb.size⟩
theorem yN {w : World} {base size n c x : Nat} {e t : TypeId} {A : Option Addr} {xs : List Value} {cs : Array Value} (h : w.ownsRow base e size (.slice A n c) n xs) (hx : Blk w x t cs) (ht : e ≠ t) : ∀ b off, A = some ⟨b, off, none⟩ → b ≠ x := by
 intro b off e1 e2
 rcases h.2 with ⟨h0, hn⟩ | ⟨g, cap, cur, h0, hg, hh, h1, h2, h3, h4⟩
 ·injection h0 with h0; rw [e1] at h0; cases h0
 ·injection h0 with h0; rw [e1] at h0; injection h0 with h0; injection h0 with h0 _
  subst h0; subst e2
  unfold Blk at hx
  rw [hx] at hh
  injection hh with hh; injection hh with hh1 hh2; exact ht hh2.symm
theorem vP {w : World} {base size n c : Nat} {e : TypeId} {A : Option Addr} {xs : List Value} (h : w.ownsRow base e size (.slice A n c) n xs) : ∀ b off, A = some ⟨b, off, none⟩ → base ≤ b := by
 intro b off e1
 have hl := h.lt
 rcases h.2 with ⟨h0, -⟩ | ⟨g, cap, cur, h0, hg, -⟩
 ·injection h0 with h0; rw [e1] at h0; cases h0
 ·injection h0 with h0; rw [e1] at h0; injection h0 with h0; injection h0 with h0 _; subst h0; exact (hl b (by rw [e1]; rfl)).1
end
section
open Go.RowKit
theorem sL (A : Option Addr) (n c B : Nat) (l : List Int) (i : Nat) (p : Int) (w : World) (hs : Sl w B 1 A n c (zD l)) (hB : B ≤ w.heap.size) (hn : n ≤ 1000000) (hi : i < n) : Calls Tryz.prog 143 #[.slice A n c, .int .i64 i, .int .i64 p] w (yx w (l.set i p)) := by
 have HL := iD (hs.len (fun _ => rfl) (by decide))
 have HC := iD (yQ A n c B l w hs hB hn)
 clear hs
 go_enter Tryz.func143, Tryz.ntmps143
 go_wp2_with fail
 refine HC.out.mono ?_
 rintro e w1 ⟨A1, c1, rfl, hO, hb⟩
 rw [HL.out] at hO ⊢
 obtain ⟨g, x, rfl, hg1, hg2, hx, hcell, hfz, hst⟩ := hO.out.at (i := i) hi
 have HST := iD (hst p)
 clear hst hx
 have hnn : n ≤ 9223372036854775807 := by omega
 go_wp2_with fail
 go_ret
 exact wF (by rw [List.length_set, HL.out]) HST.out (hb.out.setCell hg1 _)
def yH (t : Sm) (d p : Int) : Co := if rF (t.s.getD d.toNat 0) p then ⟨0, [8], t, true⟩ else ⟨0, uR (t.s.getD d.toNat 0) p, ⟨t.s.set d.toNat p, t.ls, t.pr⟩, false⟩
def uP (w : World) (As Al0 Ap0 : Option Addr) (n nl0 np0 : Nat) (co : Int) (o : Co) (e : Ending) (w' : World) : Prop :=
 ∃ (A1 A2 Al Ap : Option Addr) (n1 c1 n2 c2 nl cl np cp : Nat), e = .returned (.tuple #[.slice A1 n1 c1, .agg #[.slice A2 n2 c2, .int .i64 co, .slice Al nl cl, .slice Ap np cp, .bool o.ov], .int .i64 o.e]) ∧ Hid (o.e = 0 → yZ w' A1 A2 Al Ap n1 c1 n2 c2 nl cl np cp ⟨o.h, o.t, true⟩) ∧ Hid (Fre w.heap.size none A1 0 n1 ∧ Fre w.heap.size As A2 n n2 ∧ Fre w.heap.size Al0 Al nl0 nl ∧ Fre w.heap.size Ap0 Ap np0 np) ∧ Hid (Below w.heap.size w w')
def jr (w : World) (As Al Ap : Option Addr) (n c nl cl np cp : Nat) (co : Int) (m : List Int) (o : Co) (e : Ending) (w' : World) : Prop :=
 ∃ (A1 A2 : Option Addr) (n1 c1 c2 : Nat), e = .returned (.tuple #[.slice A1 n1 c1, .agg #[.slice A2 n c2, .int .i64 co, .slice Al nl cl, .slice Ap np cp, .bool o.ov], .int .i64 0]) ∧ Hid (Sl w' w'.heap.size 1 A1 n1 c1 (zD o.h)) ∧ Hid (Sl w' w'.heap.size 1 A2 n c2 (zD o.t.s)) ∧ Hid (Fre w.heap.size none A1 0 n1) ∧ Hid (A2 = As ∧ c2 = c ∧ o.t.s = m ∨ ∀ b off, A2 = some ⟨b, off, none⟩ → w.heap.size ≤ b) ∧ Hid (Below w.heap.size w w')
theorem sl5 {w : World} {size n c x : Nat} {A : Option Addr} {xs : List Value} {a b d e f : Value} (h : Sl w w.heap.size size A n c xs) (hx : ∀ b off, A = some ⟨b, off, none⟩ → b ≠ x) : Sl (st5 w x a b d e f) (st5 w x a b d e f).heap.size size A n c xs := by
 unfold st5
 have h5 := (((((h.ne (i := 0) (u := a) hx).ne (i := 1) (u := b) hx).ne (i := 2) (u := d) hx).ne (i := 3) (u := e) hx).ne (i := 4) (u := f) hx)
 exact h5.more (by simp [World.setCell])
theorem ij {w : World} {g x : Nat} {t : TypeId} {cs : Array Value} {a b d e f : Value} (h : Blk w g t cs) (hg : g ≠ x) : Blk (st5 w x a b d e f) g t cs :=
 (((((h.far (p := ⟨x, 0, none⟩) hg a).far (p := ⟨x, 1, none⟩) hg b).far (p := ⟨x, 2, none⟩) hg d).far (p := ⟨x, 3, none⟩) hg e).far (p := ⟨x, 4, none⟩) hg f)
theorem tY {w : World} {size n c x : Nat} {A : Option Addr} {xs : List Value} {a b d e f : Value} (h : Sl w w.heap.size size A n c xs) (hx : ∀ b off, A = some ⟨b, off, none⟩ → b ≠ x) : Sl (st5 w x a b d e f).drew (st5 w x a b d e f).drew.heap.size size A n c xs := by
 have h5 := sl5 (a := a) (b := b) (d := d) (e := e) (f := f) h hx
 revert h5
 generalize st5 w x a b d e f = X
 exact fun h5 => h5.drew
theorem kz {m p : Int} (hm : m = 1 ∨ m = 2 ∨ m = 3) (hp : p = 1 ∨ p = 2) : (bits .and .i64 m p == 0) = rF m p := by
 rcases hm with rfl | rfl | rfl <;> rcases hp with rfl | rfl <;> decide +kernel
theorem pY (An Ad As Al Ap : Option Addr) (nn cn nd cd n c nl cl np cp : Nat) (ns : List Nd) (ds : List Dv) (m : List Int) (ls : List Lk) (pr : List Int) (co k d no p q : Int) (w : World) (h : yX w An Ad As Al Ap nn cn nd cd n c nl cl np cp ns ds m ls pr) (hok : wX ns ds ⟨m, ls, pr⟩) (hx : zT ns.length ds.length ⟨k, d, no, p, q⟩ = 0) (hco : 0 ≤ co ∧ co ≤ 7) (hk : k = 3 ∨ k = 6) :
 Calls Tryz.prog 116 #[.agg #[.slice An nn cn, .slice Ad nd cd], .agg #[.slice As n c, .int .i64 co, .slice Al nl cl, .slice Ap np cp, .bool false], .agg #[.int .i64 k, .int .i64 d, .int .i64 no, .int .i64 p, .int .i64 q]] w (jr w As Al Ap n c nl cl np cp co m (yH ⟨m, ls, pr⟩ d p)) := by
 obtain ⟨hln, hld, hls⟩ := h.ln
 have hlp : pr.length = np := h.hp.len (fun _ => rfl) (by decide)
 have HH := iD h
 have HB := iD (Bxs.new4 w (30, #[.slice An nn cn, .slice Ad nd cd]) (96, #[.slice As n c, .int .i64 co, .slice Al nl cl, .slice Ap np cp, .bool false]) (43, #[.int .i64 k, .int .i64 d, .int .i64 no, .int .i64 p, .int .i64 q]) (96, #[.slice none 0 0, .int .i64 0, .slice none 0 0, .slice none 0 0, .bool false]))
 obtain ⟨hx1, hx2, hx3, hx4, hx5⟩ := yE hx
 dsimp only at hx1 hx2 hx3 hx4 hx5
 obtain ⟨hcn, hsl, -⟩ := zV hok.s
 have HNK := iD (yt.of hcn)
 have HOK := iD hok
 have hnn : nn ≤ 32 := by have := HNK.out.nl; omega
 have hnd : nd ≤ 64 := by have := HNK.out.dl; omega
 dsimp only at hsl
 have HCO := iD hco
 clear h hok hx hcn hco
 go_enter Tryz.func116, Tryz.ntmps116
 go_upto_region 1 with (fail)
 dsimp only at HB
 generalize World.alloc (World.alloc (World.alloc (World.alloc w _) _) _) _ = W at *
 rw [show w.heap.size + 1 + 1 = w.heap.size + 2 from rfl, show w.heap.size + 2 + 1 = w.heap.size + 3 from rfl]
 have HM := iD (HH.out.below HB.out.l)
 have hd2 := hx2 (by omega)
 have hp12 := hx4 hk
 obtain ⟨i, rfl⟩ := Int.eq_ofNat_of_zero_le hd2.1
 obtain ⟨bs, os, sv, hAs, hbs, hsv, hcs⟩ := HM.out.hs.at1 (show i < n by omega)
 subst hAs
 have HSV : Hid (m.getD (i : Int).toNat 0 = sv) := by unfold Hid; rw [Int.toNat_natCast]; exact yS hsv
 have HSS : Hid (m[i]? = some sv) := hsv
 have HMS : Hid (sv = 1 ∨ sv = 2 ∨ sv = 3) := by
  have := mD HOK.out.s (i := i) (by dsimp only; omega)
  rw [hsv] at this; unfold Hid; simpa using this
 have HBW := iD (kz HMS.out hp12)
 clear hsv hbs
 have hin : i < n := by omega
 have HP12 := iD hp12
 clear hp12 hk hx1 hx2 hx3 hx4 hx5
 have g0 := HB.out.b1.c0
 have g1 := HB.out.b1.c1
 have g2 := HB.out.b1.c2
 have g3 := HB.out.b1.c3
 have g4 := HB.out.b1.c4
 have s0 := HB.out.b2.c0
 have s1 := HB.out.b2.c1
 have s2 := HB.out.b2.c2
 have s3 := HB.out.b2.c3
 have s4 := HB.out.b2.c4
 have k0 := HB.out.b0.c0
 have k1 := HB.out.b0.c1
 by_cases hpq : sv = p
 ·have q1 : (sv == p) = true := by simpa using hpq
  have HT : Hid (yH ⟨m, ls, pr⟩ i p = ⟨0, [], ⟨m, ls, pr⟩, false⟩) := by
   unfold Hid yH
   dsimp only
   rw [HSV.out, if_neg (by simp [rF, hpq]), uR, if_pos hpq, Int.toNat_natCast, ← hpq, gQ HSS.out]
  clear hpq
  go_upto_region 3 with (fail)
  clear q1 k0 k1 g0 g1 g2 g3 g4 s0 s1 s2 s3 s4 hcs
  have g0 := HB.out.b1.c0
  have g1 := HB.out.b1.c1
  have g2 := HB.out.b1.c2
  have g3 := HB.out.b1.c3
  have g4 := HB.out.b1.c4
  have d0 := HB.out.b3.cell 0; have y0 := HB.out.b3.frozen 0
  have d1 := HB.out.b3.cell 1; have y1 := HB.out.b3.frozen 1
  have d2 := HB.out.b3.cell 2; have y2 := HB.out.b3.frozen 2
  have d3 := HB.out.b3.cell 3; have y3 := HB.out.b3.frozen 3
  have d4 := HB.out.b3.cell 4; have y4 := HB.out.b3.frozen 4
  refine zC (S := fun W' => W'.cell? ⟨w.heap.size + 1, 0, none⟩ = some (.slice (some ⟨bs, os, none⟩) n c) ∧ W'.cell? ⟨w.heap.size + 1, 1, none⟩ = some (.int .i64 co) ∧ W'.cell? ⟨w.heap.size + 1, 2, none⟩ = some (.slice Al nl cl) ∧ W'.cell? ⟨w.heap.size + 1, 3, none⟩ = some (.slice Ap np cp) ∧ W'.cell? ⟨w.heap.size + 1, 4, none⟩ = some (.bool false)) (J := [2, 3]) (by kernel_rfl) ?_ (fun AA => ?_)
  ·exact ⟨g0, g1, g2, g3, g4⟩
  try dsimp only at AA
  refine tk 0 20 (mf 4 1) AA ?_
  refine tk 1 6 (mf 4 2) AA ?_
  refine tb 2 (mf 4 3) fun K hK => ?_
  go_simp
  refine hK.out _ _ (fun h => by cases h) (fun _ => ?_)
  try clear AA
  clear hK K
  refine tb 3 (mf 4 4) fun K hK => ?_
  go_simp
  refine hK.out _ _ (fun h => by cases h) (fun _ => ?_)
  try clear AA
  clear hK K
  refine zA (by kernel_rfl) ?_ _
  have HE := iD (HB.out.st5 (.slice (some ⟨bs, os, none⟩) n c) (.int .i64 co) (.slice Al nl cl) (.slice Ap np cp) (.bool false)).drew; unfold st5 at HE
  have HSO : Hid (yZ ((st5 W (w.heap.size + 3) (.slice (some ⟨bs, os, none⟩) n c) (.int .i64 co) (.slice Al nl cl) (.slice Ap np cp) (.bool false))).drew none (some ⟨bs, os, none⟩) Al Ap 0 0 n c nl cl np cp ⟨[], ⟨m, ls, pr⟩, true⟩) := ⟨Sl.nil _ _ _, (HH.out.below HE.out.l).hs, (HH.out.below HE.out.l).hl, (HH.out.below HE.out.l).hp⟩
  unfold st5 at HSO
  clear d0 d1 d2 d3 d4 y0 y1 y2 y3 y4 g0 g1 g2 g3 g4
  go_wp2_with fail
  generalize World.drew (World.setCell (World.setCell (World.setCell (World.setCell (World.setCell W _ _) _ _) _ _) _ _) _ _) = z at *
  have q0 := HE.out.b3.c0
  have q1 := HE.out.b3.c1
  have q2 := HE.out.b3.c2
  have q3 := HE.out.b3.c3
  have q4 := HE.out.b3.c4
  exact bodyPost_ret (v := .tuple #[.slice none 0 0, .agg #[.slice (some ⟨bs, os, none⟩) n c, .int .i64 co, .slice Al nl cl, .slice Ap np cp, .bool false], .int .i64 0]) (by simp [results, Tryz.results116, go_sem, q0, q1, q2, q3, q4]) rfl ⟨_, _, _, _, _, by rw [HT.out], by rw [HT.out]; exact HSO.out.h, by rw [HT.out]; exact HSO.out.s, .inl ⟨rfl, rfl⟩, .inl ⟨rfl, rfl, by rw [HT.out]⟩, HE.out.l⟩
 have q1 : (sv == p) = false := by simpa using hpq
 rcases hmb : rF sv p with _ | _
 ·have q2 : (bits .and .i64 sv p == 0) = false := by rw [HBW.out]; exact hmb
  have HT : Hid (yH ⟨m, ls, pr⟩ i p = ⟨0, [8], ⟨m.set i p, ls, pr⟩, false⟩) := by
   unfold Hid yH
   dsimp only
   rw [HSV.out, hmb, uR, if_neg hpq, Int.toNat_natCast]; rfl
  clear hpq hmb
  have f4 := HB.out.b1.frozen 4
  go_upto_region 5 with (fail)
  clear q1 q2 k0 k1 g0 g1 g2 g3 g4 s0 s1 s2 s3 s4 hcs f4
  have HB1 : Hid (Bxs w [(30, #[.slice An nn cn, .slice Ad nd cd]), (96, #[.slice (some ⟨bs, os, none⟩) n c, .int .i64 co, .slice Al nl cl, .slice Ap np cp, .bool false]), (43, #[.int .i64 k, .int .i64 i, .int .i64 no, .int .i64 p, .int .i64 q]), (96, #[.slice none 0 0, .int .i64 0, .slice none 0 0, .slice none 0 0, .bool false])] (W.setCell ⟨w.heap.size + 1, 4, none⟩ (.bool false))) := HB.out.set 1 4 (.bool false) rfl
  generalize World.setCell W _ _ = V at *
  have g0 := HB1.out.b1.c0
  have g1 := HB1.out.b1.c1
  have g2 := HB1.out.b1.c2
  have g3 := HB1.out.b1.c3
  have g4 := HB1.out.b1.c4
  have s0 := HB1.out.b2.c0
  have s1 := HB1.out.b2.c1
  have s2 := HB1.out.b2.c2
  have s3 := HB1.out.b2.c3
  have s4 := HB1.out.b2.c4
  have HNW := iD (sL (some ⟨bs, os, none⟩) n c V.heap.size m i p V (HH.out.below HB1.out.l).hs lR (by omega) hin)
  go_wp2_with fail
  refine HNW.out.mono ?_
  rintro e w1 ⟨A2, c2, rfl, hO, hb⟩
  rw [List.length_set, hls] at hO ⊢
  have HB2 := iD (HB1.out.later hb.out)
  have HO2 := iD hO.out
  clear hO hb HNW g0 g1 g2 g3 g4 s0 s1 s2 s3 s4
  have f0 := HB2.out.b1.frozen 0
  have g0 := HB2.out.b1.cell 0
  go_upto_region 7 with (fail)
  clear f0 g0
  have HB3 : Hid (Bxs w [(30, #[.slice An nn cn, .slice Ad nd cd]), (96, #[.slice A2 n c2, .int .i64 co, .slice Al nl cl, .slice Ap np cp, .bool false]), (43, #[.int .i64 k, .int .i64 i, .int .i64 no, .int .i64 p, .int .i64 q]), (96, #[.slice none 0 0, .int .i64 0, .slice none 0 0, .slice none 0 0, .bool false])] (w1.setCell ⟨w.heap.size + 1, 0, none⟩ (.slice A2 n c2))) := HB2.out.set 1 0 (.slice A2 n c2) rfl
  have HVL : Hid (w.heap.size + 4 ≤ V.heap.size) := HB1.out.b3.lt
  have HS3 : Hid (Sl (w1.setCell ⟨w.heap.size + 1, 0, none⟩ (.slice A2 n c2)) (w1.setCell ⟨w.heap.size + 1, 0, none⟩ (.slice A2 n c2)).heap.size 1 A2 n c2 (zD (m.set i p))) := ((Sl.of_own HO2.out).ne fun b off e => by have := vP HO2.out b off e; have := HVL.out; omega).more (by simp [World.setCell])
  have HF3 : Hid (∀ b off, A2 = some ⟨b, off, none⟩ → w.heap.size + 4 ≤ b) := fun b off e => by have := vP HO2.out b off e; have := HVL.out; omega
  generalize World.setCell w1 _ _ = X at *
  have g0 := HB3.out.b1.c0
  have g1 := HB3.out.b1.c1
  have g2 := HB3.out.b1.c2
  have g3 := HB3.out.b1.c3
  have g4 := HB3.out.b1.c4
  have HBLA : Hid (Below X.heap.size X (X.alloc (.cells #[.int .i64 8] 3)).drew) := ((Below.refl X.heap.size X).alloc lR (.cells #[.int .i64 8] 3)).drew
  have HBA := iD (HB3.out.later HBLA.out)
  have HVA : Hid (Blk (X.alloc (.cells #[.int .i64 8] 3)).drew X.heap.size 3 #[.int .i64 8]) := Blk.new X 3 #[.int .i64 8]
  have hqq : X.heap.size ≠ w.heap.size + 3 := by have := HB3.out.b3.lt; omega
  refine zC (S := fun W' => W'.cell? ⟨w.heap.size + 1, 0, none⟩ = some (.slice A2 n c2) ∧ W'.cell? ⟨w.heap.size + 1, 1, none⟩ = some (.int .i64 co) ∧ W'.cell? ⟨w.heap.size + 1, 2, none⟩ = some (.slice Al nl cl) ∧ W'.cell? ⟨w.heap.size + 1, 3, none⟩ = some (.slice Ap np cp) ∧ W'.cell? ⟨w.heap.size + 1, 4, none⟩ = some (.bool false)) (J := [3, 4]) (by kernel_rfl) ?_ (fun AA => ?_)
  ·exact ⟨g0, g1, g2, g3, g4⟩
  try dsimp only at AA
  refine tk 1 39 (ma 5 2) AA ?_
  refine tb 0 (mf 5 2) fun K hK => ?_
  go_simp
  refine hK.out _ _ (fun _ => ?_) (fun AA' => ?_)
  ·exact ⟨HBA.out.b1.cell 0, HBA.out.b1.cell 1, HBA.out.b1.cell 2, HBA.out.b1.cell 3, HBA.out.b1.cell 4⟩
  replace AA := AA' rfl
  clear AA' hK K
  try dsimp only at AA
  generalize World.drew (World.alloc X _) = wa at *
  have d0 := HBA.out.b3.cell 0; have y0 := HBA.out.b3.frozen 0; have d1 := HBA.out.b3.cell 1; have y1 := HBA.out.b3.frozen 1; have d2 := HBA.out.b3.cell 2; have y2 := HBA.out.b3.frozen 2; have d3 := HBA.out.b3.cell 3; have y3 := HBA.out.b3.frozen 3; have d4 := HBA.out.b3.cell 4; have y4 := HBA.out.b3.frozen 4
  refine tk 2 6 (mf 5 3) AA ?_
  refine tb 3 (mf 5 4) fun K hK => ?_
  go_simp
  refine hK.out _ _ (fun h => by cases h) (fun _ => ?_)
  try clear AA
  clear hK K
  refine tb 4 (mf 5 5) fun K hK => ?_
  go_simp
  refine hK.out _ _ (fun h => by cases h) (fun _ => ?_)
  try clear AA
  clear hK K
  refine zA (by kernel_rfl) ?_ _
  have HE := iD (HBA.out.st5 (.slice A2 n c2) (.int .i64 co) (.slice Al nl cl) (.slice Ap np cp) (.bool false)); unfold st5 at HE
  have HSO : Hid (yZ ((st5 wa (w.heap.size + 3) (.slice A2 n c2) (.int .i64 co) (.slice Al nl cl) (.slice Ap np cp) (.bool false))) (some ⟨X.heap.size, 0, none⟩) A2 Al Ap 1 1 n c2 nl cl np cp ⟨[8], ⟨m.set i p, ls, pr⟩, true⟩) := ⟨xj (ij HVA.out hqq), sl5 ((HS3.out.below HBLA.out lR).more HBLA.out.size) (fun b off e => by have := HF3.out b off e; omega), (HH.out.below HE.out.l).hl, (HH.out.below HE.out.l).hp⟩
  unfold st5 at HSO
  clear d0 d1 d2 d3 d4 y0 y1 y2 y3 y4 g0 g1 g2 g3 g4
  go_wp2_with fail
  generalize World.setCell (World.setCell (World.setCell (World.setCell (World.setCell wa _ _) _ _) _ _) _ _) _ _ = z at *
  have q0 := HE.out.b3.c0
  have q1 := HE.out.b3.c1
  have q2 := HE.out.b3.c2
  have q3 := HE.out.b3.c3
  have q4 := HE.out.b3.c4
  exact bodyPost_ret (v := .tuple #[.slice (some ⟨X.heap.size, 0, none⟩) 1 1, .agg #[.slice A2 n c2, .int .i64 co, .slice Al nl cl, .slice Ap np cp, .bool false], .int .i64 0]) (by simp [results, Tryz.results116, go_sem, q0, q1, q2, q3, q4]) rfl ⟨_, _, _, _, _, by rw [HT.out], by rw [HT.out]; exact HSO.out.h, by rw [HT.out]; exact HSO.out.s, .inr (fun b off e => by injection e with e; injection e with e1 e2; rw [← e1]; exact HB3.out.l.size), .inr (fun b off e => by have := HF3.out b off e; omega), HE.out.l⟩
 ·have q2 : (bits .and .i64 sv p == 0) = true := by rw [HBW.out]; exact hmb
  have HT : Hid (yH ⟨m, ls, pr⟩ i p = ⟨0, [8], ⟨m, ls, pr⟩, true⟩) := by
   unfold Hid yH
   dsimp only
   rw [HSV.out, hmb]; rfl
  clear hpq hmb
  have f4 := HB.out.b1.frozen 4
  go_upto_region 5 with (fail)
  clear q1 q2 k0 k1 g0 g1 g2 g3 g4 s0 s1 s2 s3 s4 hcs f4
  have HB1 : Hid (Bxs w [(30, #[.slice An nn cn, .slice Ad nd cd]), (96, #[.slice (some ⟨bs, os, none⟩) n c, .int .i64 co, .slice Al nl cl, .slice Ap np cp, .bool true]), (43, #[.int .i64 k, .int .i64 i, .int .i64 no, .int .i64 p, .int .i64 q]), (96, #[.slice none 0 0, .int .i64 0, .slice none 0 0, .slice none 0 0, .bool false])] (W.setCell ⟨w.heap.size + 1, 4, none⟩ (.bool true))) := HB.out.set 1 4 (.bool true) rfl
  generalize World.setCell W _ _ = V at *
  have g4 := HB1.out.b1.c4
  go_upto_region 7 with (fail)
  clear g4
  have g0 := HB1.out.b1.c0
  have g1 := HB1.out.b1.c1
  have g2 := HB1.out.b1.c2
  have g3 := HB1.out.b1.c3
  have g4 := HB1.out.b1.c4
  have HBLA : Hid (Below V.heap.size V (V.alloc (.cells #[.int .i64 8] 3)).drew) := ((Below.refl V.heap.size V).alloc lR (.cells #[.int .i64 8] 3)).drew
  have HBA := iD (HB1.out.later HBLA.out)
  have HVA : Hid (Blk (V.alloc (.cells #[.int .i64 8] 3)).drew V.heap.size 3 #[.int .i64 8]) := Blk.new V 3 #[.int .i64 8]
  have hqq : V.heap.size ≠ w.heap.size + 3 := by have := HB1.out.b3.lt; omega
  refine zC (S := fun W' => W'.cell? ⟨w.heap.size + 1, 0, none⟩ = some (.slice (some ⟨bs, os, none⟩) n c) ∧ W'.cell? ⟨w.heap.size + 1, 1, none⟩ = some (.int .i64 co) ∧ W'.cell? ⟨w.heap.size + 1, 2, none⟩ = some (.slice Al nl cl) ∧ W'.cell? ⟨w.heap.size + 1, 3, none⟩ = some (.slice Ap np cp) ∧ W'.cell? ⟨w.heap.size + 1, 4, none⟩ = some (.bool true)) (J := [3, 4]) (by kernel_rfl) ?_ (fun AA => ?_)
  ·exact ⟨g0, g1, g2, g3, g4⟩
  try dsimp only at AA
  refine tk 1 39 (ma 5 2) AA ?_
  refine tb 0 (mf 5 2) fun K hK => ?_
  go_simp
  refine hK.out _ _ (fun _ => ?_) (fun AA' => ?_)
  ·exact ⟨HBA.out.b1.cell 0, HBA.out.b1.cell 1, HBA.out.b1.cell 2, HBA.out.b1.cell 3, HBA.out.b1.cell 4⟩
  replace AA := AA' rfl
  clear AA' hK K
  try dsimp only at AA
  generalize World.drew (World.alloc V _) = wa at *
  have d0 := HBA.out.b3.cell 0; have y0 := HBA.out.b3.frozen 0; have d1 := HBA.out.b3.cell 1; have y1 := HBA.out.b3.frozen 1; have d2 := HBA.out.b3.cell 2; have y2 := HBA.out.b3.frozen 2; have d3 := HBA.out.b3.cell 3; have y3 := HBA.out.b3.frozen 3; have d4 := HBA.out.b3.cell 4; have y4 := HBA.out.b3.frozen 4
  refine tk 2 6 (mf 5 3) AA ?_
  refine tb 3 (mf 5 4) fun K hK => ?_
  go_simp
  refine hK.out _ _ (fun h => by cases h) (fun _ => ?_)
  try clear AA
  clear hK K
  refine tb 4 (mf 5 5) fun K hK => ?_
  go_simp
  refine hK.out _ _ (fun h => by cases h) (fun _ => ?_)
  try clear AA
  clear hK K
  refine zA (by kernel_rfl) ?_ _
  have HE := iD (HBA.out.st5 (.slice (some ⟨bs, os, none⟩) n c) (.int .i64 co) (.slice Al nl cl) (.slice Ap np cp) (.bool true)); unfold st5 at HE
  have HSO : Hid (yZ ((st5 wa (w.heap.size + 3) (.slice (some ⟨bs, os, none⟩) n c) (.int .i64 co) (.slice Al nl cl) (.slice Ap np cp) (.bool true))) (some ⟨V.heap.size, 0, none⟩) (some ⟨bs, os, none⟩) Al Ap 1 1 n c nl cl np cp ⟨[8], ⟨m, ls, pr⟩, true⟩) := ⟨xj (ij HVA.out hqq), (HH.out.below HE.out.l).hs, (HH.out.below HE.out.l).hl, (HH.out.below HE.out.l).hp⟩
  unfold st5 at HSO
  clear d0 d1 d2 d3 d4 y0 y1 y2 y3 y4 g0 g1 g2 g3 g4
  go_wp2_with fail
  generalize World.setCell (World.setCell (World.setCell (World.setCell (World.setCell wa _ _) _ _) _ _) _ _) _ _ = z at *
  have q0 := HE.out.b3.c0
  have q1 := HE.out.b3.c1
  have q2 := HE.out.b3.c2
  have q3 := HE.out.b3.c3
  have q4 := HE.out.b3.c4
  exact bodyPost_ret (v := .tuple #[.slice (some ⟨V.heap.size, 0, none⟩) 1 1, .agg #[.slice (some ⟨bs, os, none⟩) n c, .int .i64 co, .slice Al nl cl, .slice Ap np cp, .bool true], .int .i64 0]) (by simp [results, Tryz.results116, go_sem, q0, q1, q2, q3, q4]) rfl ⟨_, _, _, _, _, by rw [HT.out], by rw [HT.out]; exact HSO.out.h, by rw [HT.out]; exact HSO.out.s, .inr (fun b off e => by injection e with e; injection e with e1 e2; rw [← e1]; exact HB1.out.l.size), .inl ⟨rfl, rfl, by rw [HT.out]⟩, HE.out.l⟩
theorem lN (An Ad As Al Ap : Option Addr) (nn cn nd cd n c nl cl np cp : Nat) (ns : List Nd) (ds : List Dv) (m : List Int) (ls : List Lk) (pr : List Int) (co k d no p q : Int) (w : World) (h : yX w An Ad As Al Ap nn cn nd cd n c nl cl np cp ns ds m ls pr) (hok : wX ns ds ⟨m, ls, pr⟩) (hx : zT ns.length ds.length ⟨k, d, no, p, q⟩ = 0) (hco : 0 ≤ co ∧ co ≤ 7) (hk : k = 6) :
 Calls Tryz.prog 116 #[.agg #[.slice An nn cn, .slice Ad nd cd], .agg #[.slice As n c, .int .i64 co, .slice Al nl cl, .slice Ap np cp, .bool false], .agg #[.int .i64 k, .int .i64 d, .int .i64 no, .int .i64 p, .int .i64 q]] w (uP w As Al Ap n nl np co (zu ns ds co ⟨m, ls, pr⟩ ⟨k, d, no, p, q⟩)) := by
 have HH := iD h
 refine (pY An Ad As Al Ap nn cn nd cd n c nl cl np cp ns ds m ls pr co k d no p q w h hok hx hco (.inr hk)).mono ?_
 rintro e w' ⟨A1, A2, n1, c1, c2, rfl, h1, h2, f1, f2, hb⟩
 have ht : zu ns ds co ⟨m, ls, pr⟩ ⟨k, d, no, p, q⟩ = yH ⟨m, ls, pr⟩ d p := by
  rw [sc (.inr hk)]
  unfold yH
  dsimp only
  split
  ·rfl
  ·first | rfl | rw [if_pos hk]
 have he : (yH ⟨m, ls, pr⟩ d p).e = 0 ∧ (yH ⟨m, ls, pr⟩ d p).t.ls = ls ∧ (yH ⟨m, ls, pr⟩ d p).t.pr = pr := by unfold yH; split <;> exact ⟨rfl, rfl, rfl⟩
 rw [ht]
 refine ⟨A1, A2, Al, Ap, n1, c1, n, c2, nl, cl, np, cp, by rw [he.1], fun _ => ⟨h1.out, h2.out, by dsimp only; rw [he.2.1]; exact (HH.out.below hb.out).hl, by dsimp only; rw [he.2.2]; exact (HH.out.below hb.out).hp⟩, ⟨f1.out, ?_, .inl ⟨rfl, rfl⟩, .inl ⟨rfl, rfl⟩⟩, hb⟩
 rcases f2.out with ⟨h, -⟩ | h
 ·exact .inl ⟨h, rfl⟩
 ·exact .inr h
end
section
open Go.RowKit
theorem vZ {w z : World} {size n c B : Nat} {A : Option Addr} {xs : List Value} (hw : Sl w w.heap.size size A n c xs ∨ ∀ b off, A = some ⟨b, off, none⟩ → B ≤ b) (hb : Below w.heap.size w z) (hk : (∀ b off, A = some ⟨b, off, none⟩ → B ≤ b) → Sl z z.heap.size size A n c xs) : Sl z z.heap.size size A n c xs :=
 hw.elim (fun h => (h.below hb lR).more hb.size) hk
theorem oQ (An Ad As Al Ap : Option Addr) (nn cn nd cd n c nl cl np cp : Nat) (ns : List Nd) (ds : List Dv) (m : List Int) (ls : List Lk) (pr : List Int) (co k d no p q : Int) (w : World) (h : yX w An Ad As Al Ap nn cn nd cd n c nl cl np cp ns ds m ls pr) (hok : wX ns ds ⟨m, ls, pr⟩) (hx : zT ns.length ds.length ⟨k, d, no, p, q⟩ = 0) (hco : 0 ≤ co ∧ co ≤ 7) (hk : k = 4) :
 Calls Tryz.prog 114 #[.agg #[.slice An nn cn, .slice Ad nd cd], .agg #[.slice As n c, .int .i64 co, .slice Al nl cl, .slice Ap np cp, .bool false], .agg #[.int .i64 k, .int .i64 d, .int .i64 no, .int .i64 p, .int .i64 q]] w (uP w As Al Ap n nl np co (zu ns ds co ⟨m, ls, pr⟩ ⟨k, d, no, p, q⟩)) := by
 obtain ⟨hln, hld, hls⟩ := h.ln
 have hlp : pr.length = np := h.hp.len (fun _ => rfl) (by decide)
 have HH := iD h
 have HB := iD (Bxs.new4 w (30, #[.slice An nn cn, .slice Ad nd cd]) (96, #[.slice As n c, .int .i64 co, .slice Al nl cl, .slice Ap np cp, .bool false]) (43, #[.int .i64 k, .int .i64 d, .int .i64 no, .int .i64 p, .int .i64 q]) (96, #[.slice none 0 0, .int .i64 0, .slice none 0 0, .slice none 0 0, .bool false]))
 obtain ⟨hx1, hx2, hx3, hx4, hx5⟩ := yE hx
 dsimp only at hx1 hx2 hx3 hx4 hx5
 obtain ⟨hcn, hsl, -⟩ := zV hok.s
 have HNK := iD (yt.of hcn)
 have HOK := iD hok
 have hnn : nn ≤ 32 := by have := HNK.out.nl; omega
 have hnd : nd ≤ 64 := by have := HNK.out.dl; omega
 dsimp only at hsl
 have HCO := iD hco
 have HK := iD hk
 clear h hok hx hcn hco hk
 go_enter Tryz.func114, Tryz.ntmps114
 go_upto_region 1 with (fail)
 dsimp only at HB
 generalize World.alloc (World.alloc (World.alloc (World.alloc w _) _) _) _ = W at *
 rw [show w.heap.size + 1 + 1 = w.heap.size + 2 from rfl, show w.heap.size + 2 + 1 = w.heap.size + 3 from rfl]
 have HM := iD (HH.out.below HB.out.l)
 have hk := HK.out
 clear HK
 subst hk
 have k0 := HB.out.b0.c0
 have k1 := HB.out.b0.c1
 have g0 := HB.out.b1.c0
 have g1 := HB.out.b1.c1
 have g2 := HB.out.b1.c2
 have g3 := HB.out.b1.c3
 have g4 := HB.out.b1.c4
 have s0 := HB.out.b2.c0
 have s1 := HB.out.b2.c1
 have s2 := HB.out.b2.c2
 have s3 := HB.out.b2.c3
 have s4 := HB.out.b2.c4
 have HLK := iD (wG An Ad Al Ap nn cn nd cd nl cl np cp ns ds ls co 4 d no p q W (HH.out.below HB.out.l).la (HH.out.below HB.out.l).hn (HH.out.below HB.out.l).hd (HH.out.below HB.out.l).hl (HH.out.below HB.out.l).sn (HH.out.below HB.out.l).sd (by decide) HOK.out.l)
 go_wp2_with fail
 clear k0 k1 g0 g1 g2 g3 g4 s0 s1 s2 s3 s4
 refine HLK.out.mono ?_
 rintro e w2 ⟨A, mA, cA, rfl, hS, hW, hb⟩
 have HB2 := iD (HB.out.later hb.out)
 have HS2 := iD hS.out
 have HWZ : Hid (w.heap.size + 4 ≤ W.heap.size) := HB.out.b3.lt
 have HWN : Hid (Sl w w.heap.size 3 A mA cA ((zX ns ds ls ⟨4, d, no, p, q⟩).1.flatMap Lk.cells) ∨ ∀ b off, A = some ⟨b, off, none⟩ → w.heap.size + 4 ≤ b) := by
  rcases hW.out with ⟨rfl, rfl, rfl, e⟩ | h
  ·left; rw [e]; exact HH.out.hl
  ·right; intro b off e; have := h b off e; have := HWZ.out; omega
 have HWF : Hid (Fre w.heap.size Al A nl mA) := by
  rcases hW.out with ⟨h, h2, -⟩ | h
  ·exact .inl ⟨h, h2⟩
  ·exact .inr fun b off e => by have := h b off e; have := HWZ.out; omega
 clear hS hW hb HLK
 obtain ⟨L, hL⟩ : ∃ L, L = (zX ns ds ls ⟨4, d, no, p, q⟩).1 := ⟨_, rfl⟩
 rw [← hL] at HS2 HWN
 have HLL := iD hL
 clear hL
 go_upto_region 2 with (fail)
 have HBV := iD (HB2.out.later ((Below.refl _ w2).alloc lR (.cells #[.int .i64 co, .slice A mA cA, .slice Ap np cp] 37)))
 have HG2 := iD (Blk.new w2 37 #[.int .i64 co, .slice A mA cA, .slice Ap np cp])
 have HSV : Hid (Sl (w2.alloc (.cells #[.int .i64 co, .slice A mA cA, .slice Ap np cp] 37)) (w2.alloc (.cells #[.int .i64 co, .slice A mA cA, .slice Ap np cp] 37)).heap.size 3 A mA cA (L.flatMap Lk.cells)) := (HS2.out.alloc lR _).more (by simp)
 clear HS2 HB2
 generalize World.alloc w2 _ = V at *
 obtain ⟨gb, hgb⟩ : ∃ x, x = w2.heap.size := ⟨_, rfl⟩
 rw [← hgb] at HG2 ⊢
 clear hgb
 have e0 := HG2.out.cell 0; have e1 := HG2.out.cell 1; have e2 := HG2.out.cell 2
 have g1 := HBV.out.b1.cell 1; have g2 := HBV.out.b1.cell 2; have g3 := HBV.out.b1.cell 3
 have f1 := HBV.out.b1.frozen 1; have f2 := HBV.out.b1.frozen 2; have f3 := HBV.out.b1.frozen 3
 go_upto_region 3 with (fail)
 clear g1 g2 g3 f1 f2 f3
 have HBX : Hid (Bxs w [(30, #[.slice An nn cn, .slice Ad nd cd]), (96, #[.slice As n c, .int .i64 co, .slice A mA cA, .slice Ap np cp, .bool false]), (43, #[.int .i64 4, .int .i64 d, .int .i64 no, .int .i64 p, .int .i64 q]), (96, #[.slice none 0 0, .int .i64 0, .slice none 0 0, .slice none 0 0, .bool false])] (((V.setCell ⟨w.heap.size + 1, 1, none⟩ (.int .i64 co)).setCell ⟨w.heap.size + 1, 2, none⟩ (.slice A mA cA)).setCell ⟨w.heap.size + 1, 3, none⟩ (.slice Ap np cp))) := ((HBV.out.set 1 1 (.int .i64 co) rfl).set 1 2 (.slice A mA cA) rfl).set 1 3 (.slice Ap np cp) rfl
 have HSX : Hid (∀ {z0 n0 c0 : Nat} {A0 : Option Addr} {x0 : List Value}, Sl V V.heap.size z0 A0 n0 c0 x0 → (∀ b off, A0 = some ⟨b, off, none⟩ → w.heap.size + 4 ≤ b) → Sl (((V.setCell ⟨w.heap.size + 1, 1, none⟩ (.int .i64 co)).setCell ⟨w.heap.size + 1, 2, none⟩ (.slice A mA cA)).setCell ⟨w.heap.size + 1, 3, none⟩ (.slice Ap np cp)) (((V.setCell ⟨w.heap.size + 1, 1, none⟩ (.int .i64 co)).setCell ⟨w.heap.size + 1, 2, none⟩ (.slice A mA cA)).setCell ⟨w.heap.size + 1, 3, none⟩ (.slice Ap np cp)).heap.size z0 A0 n0 c0 x0) := fun h hf => ((((h.ne (i := 1) (fun b off e => by have := hf b off e; omega)).ne (i := 2) (fun b off e => by have := hf b off e; omega)).ne (i := 3) (fun b off e => by have := hf b off e; omega))).more (by simp [World.setCell])
 clear e0 e1 e2
 have HSL := iD (HSX.out HSV.out)
 clear HBV HG2 HSV HSX
 generalize World.setCell (World.setCell (World.setCell V _ _) _ _) _ _ = X at *
 rcases hb2 : (zX ns ds ls ⟨4, d, no, p, q⟩).2 with _ | _
 ·have HT : Hid (zu ns ds co ⟨m, ls, pr⟩ ⟨4, d, no, p, q⟩ = ⟨0, [4], ⟨m, ls, pr⟩, false⟩) := by
   unfold Hid; rw [ji rfl]; dsimp only; rw [hb2]; rfl
  have HLS : Hid (L = ls) := HLL.out.trans (qM ns ds hb2)
  clear hb2
  go_upto_region 4 with (fail)
  rw [HLS.out] at HSL HWN
  have g0 := HBX.out.b1.c0
  have g1 := HBX.out.b1.c1
  have g2 := HBX.out.b1.c2
  have g3 := HBX.out.b1.c3
  have g4 := HBX.out.b1.c4
  have HBLA : Hid (Below X.heap.size X (X.alloc (.cells #[.int .i64 4] 3)).drew) := ((Below.refl X.heap.size X).alloc lR (.cells #[.int .i64 4] 3)).drew
  have HBA := iD (HBX.out.later HBLA.out)
  have HVA : Hid (Blk (X.alloc (.cells #[.int .i64 4] 3)).drew X.heap.size 3 #[.int .i64 4]) := Blk.new X 3 #[.int .i64 4]
  have hqq : X.heap.size ≠ w.heap.size + 3 := by have := HBX.out.b3.lt; omega
  refine zC (S := fun W' => W'.cell? ⟨w.heap.size + 1, 0, none⟩ = some (.slice As n c) ∧ W'.cell? ⟨w.heap.size + 1, 1, none⟩ = some (.int .i64 co) ∧ W'.cell? ⟨w.heap.size + 1, 2, none⟩ = some (.slice A mA cA) ∧ W'.cell? ⟨w.heap.size + 1, 3, none⟩ = some (.slice Ap np cp) ∧ W'.cell? ⟨w.heap.size + 1, 4, none⟩ = some (.bool false)) (J := [3, 4]) (by kernel_rfl) ?_ (fun AA => ?_)
  ·exact ⟨g0, g1, g2, g3, g4⟩
  try dsimp only at AA
  refine tk 1 24 (ma 5 2) AA ?_
  refine tb 0 (mf 5 2) fun K hK => ?_
  go_simp
  refine hK.out _ _ (fun _ => ?_) (fun AA' => ?_)
  ·exact ⟨HBA.out.b1.cell 0, HBA.out.b1.cell 1, HBA.out.b1.cell 2, HBA.out.b1.cell 3, HBA.out.b1.cell 4⟩
  replace AA := AA' rfl
  clear AA' hK K
  try dsimp only at AA
  generalize World.drew (World.alloc X _) = wa at *
  have d0 := HBA.out.b3.cell 0; have y0 := HBA.out.b3.frozen 0; have d1 := HBA.out.b3.cell 1; have y1 := HBA.out.b3.frozen 1; have d2 := HBA.out.b3.cell 2; have y2 := HBA.out.b3.frozen 2; have d3 := HBA.out.b3.cell 3; have y3 := HBA.out.b3.frozen 3; have d4 := HBA.out.b3.cell 4; have y4 := HBA.out.b3.frozen 4
  refine tk 2 6 (mf 5 3) AA ?_
  refine tb 3 (mf 5 4) fun K hK => ?_
  go_simp
  refine hK.out _ _ (fun h => by cases h) (fun _ => ?_)
  try clear AA
  clear hK K
  refine tb 4 (mf 5 5) fun K hK => ?_
  go_simp
  refine hK.out _ _ (fun h => by cases h) (fun _ => ?_)
  try clear AA
  clear hK K
  refine zA (by kernel_rfl) ?_ _
  have HE := iD (HBA.out.st5 (.slice As n c) (.int .i64 co) (.slice A mA cA) (.slice Ap np cp) (.bool false)); unfold st5 at HE
  have HSO : Hid (yZ ((st5 wa (w.heap.size + 3) (.slice As n c) (.int .i64 co) (.slice A mA cA) (.slice Ap np cp) (.bool false))) (some ⟨X.heap.size, 0, none⟩) As A Ap 1 1 n c mA cA np cp ⟨[4], ⟨m, ls, pr⟩, true⟩) := ⟨xj (ij HVA.out hqq), (HH.out.below HE.out.l).hs, vZ HWN.out HE.out.l (fun hf => sl5 (((HSL.out hf).below HBLA.out lR).more HBLA.out.size) (fun b off e => by have := hf b off e; omega)), (HH.out.below HE.out.l).hp⟩
  unfold st5 at HSO
  clear d0 d1 d2 d3 d4 y0 y1 y2 y3 y4 g0 g1 g2 g3 g4
  go_wp2_with fail
  generalize World.setCell (World.setCell (World.setCell (World.setCell (World.setCell wa _ _) _ _) _ _) _ _) _ _ = z at *
  have q0 := HE.out.b3.c0
  have q1 := HE.out.b3.c1
  have q2 := HE.out.b3.c2
  have q3 := HE.out.b3.c3
  have q4 := HE.out.b3.c4
  exact bodyPost_ret (v := .tuple #[.slice (some ⟨X.heap.size, 0, none⟩) 1 1, .agg #[.slice As n c, .int .i64 co, .slice A mA cA, .slice Ap np cp, .bool false], .int .i64 0]) (by simp [results, Tryz.results114, go_sem, q0, q1, q2, q3, q4]) rfl ⟨_, _, _, _, _, _, _, _, _, _, _, _, by rw [HT.out], by rw [HT.out]; exact fun _ => HSO.out, ⟨.inr (fun b off e => by injection e with e; injection e with e1 e2; rw [← e1]; exact HBX.out.l.size), .inl ⟨rfl, rfl⟩, HWF.out, .inl ⟨rfl, rfl⟩⟩, HE.out.l⟩
 ·have HT : Hid (zu ns ds co ⟨m, ls, pr⟩ ⟨4, d, no, p, q⟩ = ⟨0, [], ⟨m, L, pr⟩, false⟩) := by
   unfold Hid; rw [ji rfl]; dsimp only; rw [hb2, HLL.out]; rfl
  clear hb2
  go_upto_region 5 with (fail)
  have g0 := HBX.out.b1.c0
  have g1 := HBX.out.b1.c1
  have g2 := HBX.out.b1.c2
  have g3 := HBX.out.b1.c3
  have g4 := HBX.out.b1.c4
  have d0 := HBX.out.b3.cell 0; have y0 := HBX.out.b3.frozen 0
  have d1 := HBX.out.b3.cell 1; have y1 := HBX.out.b3.frozen 1
  have d2 := HBX.out.b3.cell 2; have y2 := HBX.out.b3.frozen 2
  have d3 := HBX.out.b3.cell 3; have y3 := HBX.out.b3.frozen 3
  have d4 := HBX.out.b3.cell 4; have y4 := HBX.out.b3.frozen 4
  refine zC (S := fun W' => W'.cell? ⟨w.heap.size + 1, 0, none⟩ = some (.slice As n c) ∧ W'.cell? ⟨w.heap.size + 1, 1, none⟩ = some (.int .i64 co) ∧ W'.cell? ⟨w.heap.size + 1, 2, none⟩ = some (.slice A mA cA) ∧ W'.cell? ⟨w.heap.size + 1, 3, none⟩ = some (.slice Ap np cp) ∧ W'.cell? ⟨w.heap.size + 1, 4, none⟩ = some (.bool false)) (J := [2, 3]) (by kernel_rfl) ?_ (fun AA => ?_)
  ·exact ⟨g0, g1, g2, g3, g4⟩
  try dsimp only at AA
  refine tk 0 25 (mf 4 1) AA ?_
  refine tk 1 6 (mf 4 2) AA ?_
  refine tb 2 (mf 4 3) fun K hK => ?_
  go_simp
  refine hK.out _ _ (fun h => by cases h) (fun _ => ?_)
  try clear AA
  clear hK K
  refine tb 3 (mf 4 4) fun K hK => ?_
  go_simp
  refine hK.out _ _ (fun h => by cases h) (fun _ => ?_)
  try clear AA
  clear hK K
  refine zA (by kernel_rfl) ?_ _
  have HE := iD (HBX.out.st5 (.slice As n c) (.int .i64 co) (.slice A mA cA) (.slice Ap np cp) (.bool false)).drew; unfold st5 at HE
  have HSO : Hid (yZ ((st5 X (w.heap.size + 3) (.slice As n c) (.int .i64 co) (.slice A mA cA) (.slice Ap np cp) (.bool false))).drew none As A Ap 0 0 n c mA cA np cp ⟨[], ⟨m, L, pr⟩, true⟩) := ⟨Sl.nil _ _ _, (HH.out.below HE.out.l).hs, vZ HWN.out HE.out.l (fun hf => tY (HSL.out hf) (fun b off e => by have := hf b off e; omega)), (HH.out.below HE.out.l).hp⟩
  unfold st5 at HSO
  clear d0 d1 d2 d3 d4 y0 y1 y2 y3 y4 g0 g1 g2 g3 g4
  go_wp2_with fail
  generalize World.drew (World.setCell (World.setCell (World.setCell (World.setCell (World.setCell X _ _) _ _) _ _) _ _) _ _) = z at *
  have q0 := HE.out.b3.c0
  have q1 := HE.out.b3.c1
  have q2 := HE.out.b3.c2
  have q3 := HE.out.b3.c3
  have q4 := HE.out.b3.c4
  exact bodyPost_ret (v := .tuple #[.slice none 0 0, .agg #[.slice As n c, .int .i64 co, .slice A mA cA, .slice Ap np cp, .bool false], .int .i64 0]) (by simp [results, Tryz.results114, go_sem, q0, q1, q2, q3, q4]) rfl ⟨_, _, _, _, _, _, _, _, _, _, _, _, by rw [HT.out], by rw [HT.out]; exact fun _ => HSO.out, ⟨.inl ⟨rfl, rfl⟩, .inl ⟨rfl, rfl⟩, HWF.out, .inl ⟨rfl, rfl⟩⟩, HE.out.l⟩
theorem jW (A : Option Addr) (n c : Nat) (b : Bool) : ∃ (A' : Option Addr) (n' c' : Nat), rX A n c b = .slice A' n' c' ∧ (A' = A ∧ n' = n ∧ c' = c ∧ b = false ∨ A' = none ∧ n' = 0 ∧ c' = 0 ∧ b = true) := by
 cases b
 ·exact ⟨_, _, _, rfl, .inl ⟨rfl, rfl, rfl, rfl⟩⟩
 ·exact ⟨_, _, _, rfl, .inr ⟨rfl, rfl, rfl, rfl⟩⟩
theorem gX {w w' : World} {ns : List Nd} {ds : List Dv} {m : List Int} {d p co : Int} {ls : List Lk} {pr : List Int} {e : Ending} (h : mh w ns ds m d p co ls pr e w') (hs : yh ns ds m d p co = yL m) :
 ∃ (A : Option Addr) (k c : Nat), e = .returned (.tuple #[.slice A k c, .int .i64 (yL m)]) ∧ Hid (yL m = 0 → Sl w' w'.heap.size 1 A k c (zD (vD ns ds m d p co ls pr))) ∧ Hid (A = none ∧ k = 0 ∨ ∀ b off, A = some ⟨b, off, none⟩ → w.heap.size ≤ b) ∧ Hid (Below w.heap.size w w') := by
 obtain ⟨⟨h1, rfl⟩ | ⟨h1, A, k, c, x, out, hx, rfl, hO, hL⟩, hb⟩ := h
 ·exact ⟨none, 0, 0, by rw [hs], fun h0 => absurd (hs.trans h0) h1, .inl ⟨rfl, rfl⟩, hb⟩
 ·refine ⟨A, k, c, by rw [← hs, h1], fun _ => ?_, .inr (vP hO.out), hb⟩
  rw [← mC hx hL.out]; exact Sl.of_own hO.out
theorem tR (An Ad As Al Ap : Option Addr) (nn cn nd cd n c nl cl np cp : Nat) (ns : List Nd) (ds : List Dv) (m : List Int) (ls : List Lk) (pr : List Int) (co k d no p q : Int) (w : World) (h : yX w An Ad As Al Ap nn cn nd cd n c nl cl np cp ns ds m ls pr) (hok : wX ns ds ⟨m, ls, pr⟩) (hx : zT ns.length ds.length ⟨k, d, no, p, q⟩ = 0) (hco : 0 ≤ co ∧ co ≤ 7) (hk : k = 1 ∨ k = 2) :
 Calls Tryz.prog 112 #[.agg #[.slice An nn cn, .slice Ad nd cd], .agg #[.slice As n c, .int .i64 co, .slice Al nl cl, .slice Ap np cp, .bool false], .agg #[.int .i64 k, .int .i64 d, .int .i64 no, .int .i64 p, .int .i64 q]] w (uP w As Al Ap n nl np co (zu ns ds co ⟨m, ls, pr⟩ ⟨k, d, no, p, q⟩)) := by
 obtain ⟨hln, hld, hls⟩ := h.ln
 have hlp : pr.length = np := h.hp.len (fun _ => rfl) (by decide)
 have HH := iD h
 have HB := iD (Bxs.new4 w (30, #[.slice An nn cn, .slice Ad nd cd]) (96, #[.slice As n c, .int .i64 co, .slice Al nl cl, .slice Ap np cp, .bool false]) (43, #[.int .i64 k, .int .i64 d, .int .i64 no, .int .i64 p, .int .i64 q]) (96, #[.slice none 0 0, .int .i64 0, .slice none 0 0, .slice none 0 0, .bool false]))
 obtain ⟨hx1, hx2, hx3, hx4, hx5⟩ := yE hx
 dsimp only at hx1 hx2 hx3 hx4 hx5
 obtain ⟨hcn, hsl, -⟩ := zV hok.s
 have HNK := iD (yt.of hcn)
 have HOK := iD hok
 have hnn : nn ≤ 32 := by have := HNK.out.nl; omega
 have hnd : nd ≤ 64 := by have := HNK.out.dl; omega
 dsimp only at hsl
 have HCO := iD hco
 clear h hok hx hcn hco
 go_enter Tryz.func112, Tryz.ntmps112
 go_upto_region 1 with (fail)
 dsimp only at HB
 generalize World.alloc (World.alloc (World.alloc (World.alloc w _) _) _) _ = W at *
 rw [show w.heap.size + 1 + 1 = w.heap.size + 2 from rfl, show w.heap.size + 2 + 1 = w.heap.size + 3 from rfl]
 have HM := iD (HH.out.below HB.out.l)
 have hd2 := hx2 (by omega)
 obtain ⟨i, rfl⟩ := Int.eq_ofNat_of_zero_le hd2.1
 have hi : i < nd := by omega
 have HSE : Hid (yh ns ds m i k co = yL m) := by
  have := HCO.out
  unfold Hid yh yc
  rw [if_pos HOK.out.s, if_pos] <;> rw [if_neg (by omega), if_neg (by omega), if_neg (by omega), if_neg (by omega), if_neg (by omega)]
 have HK := iD hk
 clear hx1 hx2 hx3 hx4 hx5
 have s0 := HB.out.b2.c0
 have s1 := HB.out.b2.c1
 have s2 := HB.out.b2.c2
 have s3 := HB.out.b2.c3
 have s4 := HB.out.b2.c4
 go_wp2_with fail
 clear s0 s1 s2 s3 s4
 refine (wO k i no p q W hk).mono ?_
 rintro e w1 ⟨rfl, hb1⟩
 have HB1 := iD (HB.out.later hb1)
 clear hb1 HB HM hk
 go_upto_region 2 with (fail)
 have HBU := iD (HB1.out.later ((Below.refl _ w1).alloc lR (.cells #[.int .i64 i, .int .i64 k] 77)))
 have HOP := iD (Blk.new w1 77 #[.int .i64 i, .int .i64 k])
 have HOB : Hid (w.heap.size + 4 ≤ w1.heap.size) := HB1.out.b3.lt
 clear HB1
 generalize World.alloc w1 _ = U at *
 obtain ⟨ob, hob⟩ : ∃ x, x = w1.heap.size := ⟨_, rfl⟩
 rw [← hob] at HOP HOB ⊢
 clear hob
 have HIN := iD (iz An Ad As Al Ap nn cn nd cd n c nl cl np cp ns ds m ls pr i k co U (HH.out.below HBU.out.l))
 have k0 := HBU.out.b0.c0
 have k1 := HBU.out.b0.c1
 have g0 := HBU.out.b1.c0
 have g1 := HBU.out.b1.c1
 have g2 := HBU.out.b1.c2
 have g3 := HBU.out.b1.c3
 have g4 := HBU.out.b1.c4
 have o0 := HOP.out.cell 0
 have o1 := HOP.out.cell 1
 go_wp2_with fail
 clear k0 k1 g0 g1 g2 g3 g4 o0 o1
 refine HIN.out.mono ?_
 intro e w2 hpost
 obtain ⟨A1, m1, c1, rfl, hS1, hN1, hb2⟩ := gX hpost HSE.out
 have HB2 := iD (HBU.out.later hb2.out)
 have HOP2 := iD (HOP.out.below hb2.out HOP.out.lt)
 have HZU : Hid (w.heap.size + 4 ≤ U.heap.size) := HBU.out.b3.lt
 have HZ2 : Hid (w.heap.size + 4 ≤ w2.heap.size) := HB2.out.b3.lt
 have HS1 := iD hS1.out
 have HN1 : Hid (Fre w.heap.size none A1 0 m1) := by
  rcases hN1.out with ⟨h, h2⟩ | h
  ·exact .inl ⟨h, h2⟩
  ·exact .inr fun b off e => by have := h b off e; have := HZU.out; omega
 have HF1 : Hid (∀ b off, A1 = some ⟨b, off, none⟩ → w.heap.size + 4 ≤ b) := by
  rcases hN1.out with ⟨h, h2⟩ | h
  ·exact fun b off e => by rw [h] at e; cases e
  ·exact fun b off e => by have := h b off e; have := HZU.out; omega
 clear hpost hS1 hN1 hb2 HIN HBU HOP
 have g0 := HB2.out.b1.c0
 have g1 := HB2.out.b1.c1
 have g2 := HB2.out.b1.c2
 have g3 := HB2.out.b1.c3
 have g4 := HB2.out.b1.c4
 have o0 := HOP2.out.cell 0
 have o1 := HOP2.out.cell 1
 go_wp2_with fail
 clear g0 g1 g2 g3 g4 o0 o1
 refine (sL As n c w2.heap.size m i k w2 (HH.out.below HB2.out.l).hs lR (by omega) (by omega)).mono ?_
 rintro e w3 ⟨A2, c2, rfl, hO, hb3⟩
 rw [List.length_set, hls] at hO ⊢
 have HB3 := iD (HB2.out.later hb3.out)
 have HOP3 := iD (HOP2.out.below hb3.out HOP2.out.lt)
 have HS13 : Hid (yL m = 0 → Sl w3 w3.heap.size 1 A1 m1 c1 (zD (vD ns ds m i k co ls pr))) := fun h0 => ((HS1.out h0).below hb3.out lR).more hb3.out.size
 have HS23 := iD (Sl.of_own hO.out)
 have HF2 : Hid (∀ b off, A2 = some ⟨b, off, none⟩ → w.heap.size + 4 ≤ b) := fun b off e => by have := vP hO.out b off e; have := HZ2.out; omega
 clear hO hb3 HB2 HOP2 HS1
 have g0 := HB3.out.b1.cell 0; have f0 := HB3.out.b1.frozen 0
 go_upto_region 4 with (fail)
 clear g0 f0
 have HBY : Hid (Bxs w [(30, #[.slice An nn cn, .slice Ad nd cd]), (96, #[.slice A2 n c2, .int .i64 co, .slice Al nl cl, .slice Ap np cp, .bool false]), (43, #[.int .i64 k, .int .i64 i, .int .i64 no, .int .i64 p, .int .i64 q]), (96, #[.slice none 0 0, .int .i64 0, .slice none 0 0, .slice none 0 0, .bool false])] (w3.setCell ⟨w.heap.size + 1, 0, none⟩ (.slice A2 n c2))) := HB3.out.set 1 0 (.slice A2 n c2) rfl
 have HOPY := iD (HOP3.out.far (p := ⟨w.heap.size + 1, 0, none⟩) (show ob ≠ w.heap.size + 1 by have := HOB.out; omega) (.slice A2 n c2))
 have HS1Y : Hid (yL m = 0 → Sl (w3.setCell ⟨w.heap.size + 1, 0, none⟩ (.slice A2 n c2)) (w3.setCell ⟨w.heap.size + 1, 0, none⟩ (.slice A2 n c2)).heap.size 1 A1 m1 c1 (zD (vD ns ds m i k co ls pr))) := fun h0 => ((HS13.out h0).ne (fun b off e => by have := HF1.out b off e; omega)).more (by simp [World.setCell])
 have HS2Y : Hid (Sl (w3.setCell ⟨w.heap.size + 1, 0, none⟩ (.slice A2 n c2)) (w3.setCell ⟨w.heap.size + 1, 0, none⟩ (.slice A2 n c2)).heap.size 1 A2 n c2 (zD (m.set i k))) := (HS23.out.ne (fun b off e => by have := HF2.out b off e; omega)).more (by simp [World.setCell])
 clear HB3 HOP3 HS13 HS23
 generalize World.setCell w3 _ _ = Y at *
 have HOD := iD (wj An Ad Al Ap nn cn nd cd nl cl np cp ds co i k Y (HH.out.below HBY.out.l).hd HK.out (by omega) (by omega))
 have k0 := HBY.out.b0.c0
 have k1 := HBY.out.b0.c1
 have g0 := HBY.out.b1.c0
 have g1 := HBY.out.b1.c1
 have g2 := HBY.out.b1.c2
 have g3 := HBY.out.b1.c3
 have g4 := HBY.out.b1.c4
 have o0 := HOPY.out.cell 0
 have o1 := HOPY.out.cell 1
 go_wp2_with fail
 clear k0 k1 g0 g1 g2 g3 g4 o0 o1
 refine HOD.out.mono ?_
 rintro e V ⟨rfl, hb4⟩
 have HBV := iD (HBY.out.later hb4)
 have HS1V : Hid (yL m = 0 → Sl V V.heap.size 1 A1 m1 c1 (zD (vD ns ds m i k co ls pr))) := fun h0 => ((HS1Y.out h0).below hb4 lR).more hb4.size
 have HS2V := iD ((HS2Y.out.below hb4 lR).more hb4.size)
 clear hb4 HOD HBY HOPY HS1Y HS2Y
 obtain ⟨Aq, nq, cq, hq, hAq⟩ := jW Ap np cp (vX ds k i)
 rw [hq]
 have HAQ := iD hAq
 clear hq hAq
 have g1 := HBV.out.b1.cell 1; have g2 := HBV.out.b1.cell 2; have g3 := HBV.out.b1.cell 3
 have f1 := HBV.out.b1.frozen 1; have f2 := HBV.out.b1.frozen 2; have f3 := HBV.out.b1.frozen 3
 go_upto_region 5 with (fail)
 clear g1 g2 g3 f1 f2 f3
 have HBX : Hid (Bxs w [(30, #[.slice An nn cn, .slice Ad nd cd]), (96, #[.slice A2 n c2, .int .i64 co, .slice Al nl cl, .slice Aq nq cq, .bool false]), (43, #[.int .i64 k, .int .i64 i, .int .i64 no, .int .i64 p, .int .i64 q]), (96, #[.slice none 0 0, .int .i64 0, .slice none 0 0, .slice none 0 0, .bool false])] (((V.setCell ⟨w.heap.size + 1, 1, none⟩ (.int .i64 co)).setCell ⟨w.heap.size + 1, 2, none⟩ (.slice Al nl cl)).setCell ⟨w.heap.size + 1, 3, none⟩ (.slice Aq nq cq))) := ((HBV.out.set 1 1 (.int .i64 co) rfl).set 1 2 (.slice Al nl cl) rfl).set 1 3 (.slice Aq nq cq) rfl
 have HSX : Hid (∀ {z0 n0 c0 : Nat} {A0 : Option Addr} {x0 : List Value}, Sl V V.heap.size z0 A0 n0 c0 x0 → (∀ b off, A0 = some ⟨b, off, none⟩ → w.heap.size + 4 ≤ b) → Sl (((V.setCell ⟨w.heap.size + 1, 1, none⟩ (.int .i64 co)).setCell ⟨w.heap.size + 1, 2, none⟩ (.slice Al nl cl)).setCell ⟨w.heap.size + 1, 3, none⟩ (.slice Aq nq cq)) (((V.setCell ⟨w.heap.size + 1, 1, none⟩ (.int .i64 co)).setCell ⟨w.heap.size + 1, 2, none⟩ (.slice Al nl cl)).setCell ⟨w.heap.size + 1, 3, none⟩ (.slice Aq nq cq)).heap.size z0 A0 n0 c0 x0) := fun h hf => ((((h.ne (i := 1) (fun b off e => by have := hf b off e; omega)).ne (i := 2) (fun b off e => by have := hf b off e; omega)).ne (i := 3) (fun b off e => by have := hf b off e; omega))).more (by simp [World.setCell])
 have HS1X : Hid (yL m = 0 → Sl (((V.setCell ⟨w.heap.size + 1, 1, none⟩ (.int .i64 co)).setCell ⟨w.heap.size + 1, 2, none⟩ (.slice Al nl cl)).setCell ⟨w.heap.size + 1, 3, none⟩ (.slice Aq nq cq)) (((V.setCell ⟨w.heap.size + 1, 1, none⟩ (.int .i64 co)).setCell ⟨w.heap.size + 1, 2, none⟩ (.slice Al nl cl)).setCell ⟨w.heap.size + 1, 3, none⟩ (.slice Aq nq cq)).heap.size 1 A1 m1 c1 (zD (vD ns ds m i k co ls pr))) := fun h0 => HSX.out (HS1V.out h0) HF1.out
 have HS2X := iD (HSX.out HS2V.out HF2.out)
 clear HBV HS1V HS2V HSX
 generalize World.setCell (World.setCell (World.setCell V _ _) _ _) _ _ = X at *
 have HT : Hid (zu ns ds co ⟨m, ls, pr⟩ ⟨k, i, no, p, q⟩ = ⟨yL m, vD ns ds m i k co ls pr, ⟨m.set i k, ls, if vX ds k i then [] else pr⟩, false⟩) := by unfold Hid; rw [jg HK.out, Int.toNat_natCast]
 have g0 := HBX.out.b1.c0
 have g1 := HBX.out.b1.c1
 have g2 := HBX.out.b1.c2
 have g3 := HBX.out.b1.c3
 have g4 := HBX.out.b1.c4
 have d0 := HBX.out.b3.cell 0; have y0 := HBX.out.b3.frozen 0
 have d1 := HBX.out.b3.cell 1; have y1 := HBX.out.b3.frozen 1
 have d2 := HBX.out.b3.cell 2; have y2 := HBX.out.b3.frozen 2
 have d3 := HBX.out.b3.cell 3; have y3 := HBX.out.b3.frozen 3
 have d4 := HBX.out.b3.cell 4; have y4 := HBX.out.b3.frozen 4
 refine zC (S := fun W' => W'.cell? ⟨w.heap.size + 1, 0, none⟩ = some (.slice A2 n c2) ∧ W'.cell? ⟨w.heap.size + 1, 1, none⟩ = some (.int .i64 co) ∧ W'.cell? ⟨w.heap.size + 1, 2, none⟩ = some (.slice Al nl cl) ∧ W'.cell? ⟨w.heap.size + 1, 3, none⟩ = some (.slice Aq nq cq) ∧ W'.cell? ⟨w.heap.size + 1, 4, none⟩ = some (.bool false)) (J := [5]) (by kernel_rfl) ?_ (fun AA => ?_)
 ·exact ⟨g0, g1, g2, g3, g4⟩
 try dsimp only at AA
 refine tk 0 38 (mf 6 1) AA ?_
 refine tk 1 39 (mf 6 2) AA ?_
 refine tk 2 40 (mf 6 3) AA ?_
 refine tk 3 6 (mf 6 4) AA ?_
 have HE := iD (HBX.out.st5 (.slice A2 n c2) (.int .i64 co) (.slice Al nl cl) (.slice Aq nq cq) (.bool false)).drew; unfold st5 at HE
 refine tb 4 (mf 6 5) fun K hK => ?_
 go_simp
 refine hK.out _ _ (fun _ => ?_) (fun AA' => ?_)
 ·exact ⟨(HE.out.b1.cell 0), (HE.out.b1.cell 1), (HE.out.b1.cell 2), (HE.out.b1.cell 3), (HE.out.b1.cell 4)⟩
 replace AA := AA' rfl
 clear AA' hK K
 try dsimp only at AA
 refine tb 5 (mf 6 6) fun K hK => ?_
 go_simp
 refine hK.out _ _ (fun h => by cases h) (fun _ => ?_)
 try clear AA
 clear hK K
 refine zA (by kernel_rfl) ?_ _
 have HSO : Hid (yL m = 0 → yZ ((st5 X (w.heap.size + 3) (.slice A2 n c2) (.int .i64 co) (.slice Al nl cl) (.slice Aq nq cq) (.bool false))).drew A1 A2 Al Aq m1 c1 n c2 nl cl nq cq ⟨vD ns ds m i k co ls pr, ⟨m.set i k, ls, if vX ds k i then [] else pr⟩, true⟩) := fun h0 => ⟨tY (HS1X.out h0) (fun b off e => by have := HF1.out b off e; omega), tY HS2X.out (fun b off e => by have := HF2.out b off e; omega), (HH.out.below HE.out.l).hl, HAQ.out.elim (fun ⟨h1, h2, h3, e⟩ => by subst h1 h2 h3; rw [e]; exact (HH.out.below HE.out.l).hp) (fun ⟨h1, h2, h3, e⟩ => by subst h1 h2 h3; rw [e]; exact Sl.nil _ _ _)⟩
 unfold st5 at HSO
 clear d0 d1 d2 d3 d4 y0 y1 y2 y3 y4 g0 g1 g2 g3 g4
 go_wp2_with fail
 generalize World.drew (World.setCell (World.setCell (World.setCell (World.setCell (World.setCell X _ _) _ _) _ _) _ _) _ _) = z at *
 have q0 := HE.out.b3.c0
 have q1 := HE.out.b3.c1
 have q2 := HE.out.b3.c2
 have q3 := HE.out.b3.c3
 have q4 := HE.out.b3.c4
 exact bodyPost_ret (v := .tuple #[.slice A1 m1 c1, .agg #[.slice A2 n c2, .int .i64 co, .slice Al nl cl, .slice Aq nq cq, .bool false], .int .i64 (yL m)]) (by simp [results, Tryz.results112, go_sem, q0, q1, q2, q3, q4]) rfl ⟨_, _, _, _, _, _, _, _, _, _, _, _, by rw [HT.out], by rw [HT.out]; exact HSO.out, ⟨HN1.out, .inr (fun b off e => by have := HF2.out b off e; omega), .inl ⟨rfl, rfl⟩, HAQ.out.elim (fun h => .inl ⟨h.1, h.2.1⟩) (fun h => .inr (fun b off e => by rw [h.1] at e; cases e))⟩, HE.out.l⟩
end
section
open Go.RowKit
theorem nE (A : Option Addr) (c B : Nat) (m : List Int) (w : World) (hs : Sl w B 1 A m.length c (zD m)) (hB : B ≤ w.heap.size) (hn : m.length ≤ 1000) : Calls Tryz.prog 172 #[.slice A m.length c] w (yx w (xB m 1)) := by
 have HC := iD (pm A c B m 1 w hs hB hn)
 clear hs
 go_enter Tryz.func172, Tryz.ntmps172
 go_wp2_with fail
 refine HC.out.mono ?_
 rintro e w1 ⟨A1, c1, rfl, hO, hb⟩
 go_wp2_with fail
 go_ret
 exact ⟨A1, c1, rfl, hO, hb⟩
def ShC (nn : Nat) (L : Nat → Bool) (k : Nat) (cs : Array Value) : Prop := cs.size = nn * 4 ∧ ∀ v, v < k → cs[v * 4]? = some (.bool (L v))
theorem ShC.step {nn k : Nat} {L : Nat → Bool} {cs : Array Value} {a b c d : Value} (h : ShC nn L k cs) (hk : k < nn) (ha : a = .bool (L k)) : ShC nn L (k + 1) ((((cs.setIfInBounds (k * 4) a).setIfInBounds (k * 4 + 1) b).setIfInBounds (k * 4 + 2) c).setIfInBounds (k * 4 + 3) d) := by
 subst ha
 refine ⟨by simp [h.1], fun v hv => ?_⟩
 have h1 := h.1
 rw [Array.getElem?_setIfInBounds_ne (by omega), Array.getElem?_setIfInBounds_ne (by omega), Array.getElem?_setIfInBounds_ne (by omega)]
 by_cases e : v = k
 ·subst e; rw [Array.getElem?_setIfInBounds_self_of_lt (by omega)]
 ·rw [Array.getElem?_setIfInBounds_ne (by omega)]; exact h.2 v (by omega)
theorem ShC.at {nn k : Nat} {L : Nat → Bool} {cs : Array Value} (h : ShC nn L k cs) {w : World} {g : Nat} {t : TypeId} (hb : Blk w g t cs) {j : Nat} (hj : j < nn * 4) : ∃ u, w.cell? ⟨g, j, none⟩ = some u := by
 rw [hb.cell]; exact ⟨_, Array.getElem?_eq_getElem (by rw [h.1]; exact hj)⟩
def ShR (w : World) (_nt : Array Value) (A2 A4 : Option Addr) (nn g : Nat) (c2 c4 : List Int) (L : Nat → Bool) (gk : Nat) (iv : Value) (wr : World) : Prop :=
 ∃ (k : Nat) (cs : Array Value), iv = .int .i64 k ∧ k ≤ nn ∧ gk = nn - k ∧ Hid (Blk wr g 140 cs) ∧ Hid (ShC nn L k cs) ∧ Hid (Sl wr g 1 A2 nn nn (zD c2)) ∧ Hid (Sl wr g 1 A4 nn nn (zD c4)) ∧ Hid (Below w.heap.size w wr)
def gj (w : World) (nn : Nat) (L : Nat → Bool) (e : Ending) (w' : World) : Prop :=
 ∃ (A : Option Addr) (c : Nat), e = .returned (.tuple #[.slice A nn c, .int .i64 0]) ∧ Hid (∀ v, v < nn → ∃ b o, A = some ⟨b, o, none⟩ ∧ w'.cell? ⟨b, o + v * 4, none⟩ = some (.bool (L v))) ∧ Hid (Below w.heap.size w w')
noncomputable def shL (nn : Nat) (ds : List Dv) (m : List Int) : Nat → Bool := fun v => lvB (zh nn ds (xB m 2)) (v : Nat)
theorem mw (n : Nat) (hn : n ≤ 1000000) (w : World) : (Instr.makeSlice 136 (.int .i64 (n : Int)) (.int .i64 (n : Int))).run Tryz.prog w = .ok (.slice (some ⟨w.heap.size, 0, none⟩) n n) (w.alloc (.cells (madeCells #[.bool false, .bool false, .bool false, .bool false] (n * 4)) 140)) := by
 obtain ⟨i, hi, hz, hs, hb⟩ := info_parts (P := Tryz.prog) (e := 140) (z := .agg #[.bool false, .bool false, .bool false, .bool false]) (size := 4) (bytes := 4) (by kernel_rfl)
 have h := run_make (P := Tryz.prog) w 136 140 i _ Tryz.underlying136 hi hz .i64 .i64 n n (by omega) (Int.le_refl _) (by rw [hb]; omega) (by omega)
 simp only [Int.toNat_natCast, hs] at h
 exact h
theorem mt (nn : Nat) (L : Nat → Bool) (z : Array Value) : ShC nn L 0 (madeCells z (nn * 4)) := ⟨size_madeCells _ _, fun _ h => absurd h (Nat.not_lt_zero _)⟩
theorem oZ (An Ad As : Option Addr) (nn cn nd cd n c : Nat) (ns : List Nd) (ds : List Dv) (m : List Int) (w : World) (hla : Laid w) (hn : Sl w w.heap.size 3 An nn cn (ns.flatMap Nd.cells)) (hd : Sl w w.heap.size 5 Ad nd cd (ds.flatMap Dv.cells)) (hs : Sl w w.heap.size 1 As n c (zD m)) (hsn : ∀ x ∈ ns, x.name.size ≤ 9223372036854775807) (hsd : ∀ x ∈ ds, x.name.size ≤ 9223372036854775807) (hm : zU ns ds m = 0) :
 Calls Tryz.prog 144 #[.agg #[.slice An nn cn, .slice Ad nd cd], .slice As n c] w (gj w nn (shL nn ds m)) := by
 have hln : ns.length = nn := hn.len (fun _ => rfl) (by decide)
 have hld : ds.length = nd := hd.len (fun _ => rfl) (by decide)
 have hls : m.length = n := hs.len (fun _ => rfl) (by decide)
 have hms := (zV hm).2.1
 have HNK := iD (yt.of (zV hm).1)
 have hnn : nn ≤ 32 := by have := HNK.out.nl; omega
 have hnd : nd ≤ 64 := by have := HNK.out.dl; omega
 subst hls
 have HB := iD ((Bxs.nil w).add rfl 30 #[.slice An nn cn, .slice Ad nd cd])
 have HD := iD hd; have HS := iD hs; have HN := iD hn; have HSN := iD hsn; have HSD := iD hsd; have HLA := iD hla
 have HME := iD hm
 have HEA : Hid (yo nn ds ∧ AOk nn ds) := ⟨by rw [← hln]; exact HNK.out.e, by rw [← hln]; exact HNK.out.a⟩
 have hdm : nd ≤ m.length := by omega
 have hmd : m.length ≤ 64 := by omega
 clear hd hs hn hsn hsd hm hla hln hld hms
 go_enter Tryz.func144, Tryz.ntmps144
 go_upto_region 1 with (fail)
 dsimp only [List.nil_append] at HB
 generalize World.alloc w _ = W at *
 have HMC := iD (vQ An Ad As nn cn nd cd m.length c w.heap.size w.heap.size w.heap.size ns ds m W (HLA.out.below HB.out.l lR) (HN.out.below HB.out.l lR) (HD.out.below HB.out.l lR) (HS.out.below HB.out.l lR) HB.out.l.size HB.out.l.size HB.out.l.size HSN.out HSD.out)
 have k0 := HB.out.b0.c0
 have k1 := HB.out.b0.c1
 go_wp2_with fail
 clear k0 k1
 refine HMC.out.mono ?_
 rintro e w1 ⟨rfl, hb1⟩
 have HB1 := iD (HB.out.later hb1)
 clear hb1 HMC HB
 rw [HME.out]
 go_upto_region 4 with (fail)
 refine zC (S := fun W' => Bxs w [(30, #[.slice An nn cn, .slice Ad nd cd])] W') (J := []) (by kernel_rfl) ?_ (fun AA => ?_)
 ·exact HB1.out.drew
 try dsimp only at AA
 refine tx 0 20 ?_ (mf 9 1) ?_ AA ?_
 rotate_left
 ·(intro w hSw; (try dsimp only at hSw); have k0 := hSw.b0.cell 0; have k1 := hSw.b0.cell 1; go_simp; try with_reducible rfl)
 try simp only [Act.put, sA, sB, sC]
 refine tk 1 21 (mf 9 2) AA ?_
 refine tb 2 (mf 9 3) fun K hK => ?_
 (go_simp; refine (ph As c _ m w1.drew (HS.out.below AA.l lR) AA.l.size (by omega)).mono ?_; rintro e w2 ⟨A1, c1, rfl, hO, hb⟩; rw [wW] at hO ⊢; have HO1 := iD hO.out; have HBb := iD hb.out; clear hO hb; go_simp)
 refine hK.out _ _ (fun _ => ?_) (fun AA' => ?_)
 ·exact AA.later HBb.out
 replace AA := AA' rfl
 clear AA' hK K
 try dsimp only at AA
 refine tb 3 (mf 9 4) fun K hK => ?_
 (go_simp; refine (xy An Ad A1 nn cn nd cd m.length c1 w.heap.size w2.heap.size ds (xB m 2) w2 (HD.out.below AA.l lR) AA.l.size (Sl.of_own HO1.out) lR (by omega) (by omega) (by omega) HEA.out.1 HEA.out.2).mono ?_; rintro e w3 ⟨A, A2, P, C2, rfl, hO1, hO2, hP, hC, hb⟩; have HO2 := iD hO2.out; have HC2 := iD hC.out; have HBc := iD hb.out; clear hO1 hO2 hP hC hb; go_simp)
 refine hK.out _ _ (fun _ => ?_) (fun AA' => ?_)
 ·exact AA.later HBc.out
 replace AA := AA' rfl
 clear AA' hK K
 try dsimp only at AA
 refine tk 4 19 (mf 9 5) AA ?_
 refine tk 5 24 (mf 9 6) AA ?_
 refine tk 6 25 (mf 9 7) AA ?_
 refine tk 7 7 (mf 9 8) AA ?_
 refine tk 8 8 (mf 9 9) AA ?_
 refine zA (by kernel_rfl) ?_ _
 have HB3 := iD AA
 clear HB1 HO1 HBb HBc AA
 go_upto_region 5 with (fail)
 refine zC (S := fun W' => Bxs w [(30, #[.slice An nn cn, .slice Ad nd cd])] W' ∧ zO W' w2.heap.size A2 nn nn C2) (J := []) (by kernel_rfl) ?_ (fun AA => ?_)
 ·exact ⟨HB3.out.drew, HO2.out.later (Below.refl _ _).drew⟩
 try dsimp only at AA
 refine tx 0 27 ?_ (mf 9 1) ?_ AA ?_
 rotate_left
 ·(intro w hSw; (try dsimp only at hSw); have k0 := hSw.1.b0.cell 0; have k1 := hSw.1.b0.cell 1; go_simp; try with_reducible rfl)
 try simp only [Act.put, sA, sB, sC]
 refine tk 1 28 (mf 9 2) AA ?_
 refine tb 2 (mf 9 3) fun K hK => ?_
 (go_simp; refine (nE As c _ m w3.drew (HS.out.below AA.1.l lR) AA.1.l.size (by omega)).mono ?_; rintro e w4 ⟨A3, c3, rfl, hO, hb⟩; rw [wW] at hO ⊢; have HO3 := iD hO.out; have HBb := iD hb.out; clear hO hb; go_simp)
 refine hK.out _ _ (fun _ => ?_) (fun AA' => ?_)
 ·exact ⟨AA.1.later HBb.out, AA.2.later HBb.out⟩
 replace AA := AA' rfl
 clear AA' hK K
 try dsimp only at AA
 refine tb 3 (mf 9 4) fun K hK => ?_
 (go_simp; refine (xy An Ad A3 nn cn nd cd m.length c3 w.heap.size w4.heap.size ds (xB m 1) w4 (HD.out.below AA.1.l lR) AA.1.l.size (Sl.of_own HO3.out) lR (by omega) (by omega) (by omega) HEA.out.1 HEA.out.2).mono ?_; rintro e w5 ⟨A, A4, P, C4, rfl, hO1, hO2, hP, hC, hb⟩; have HO4 := iD hO2.out; have HC4 := iD hC.out; have HBc := iD hb.out; clear hO1 hO2 hP hC hb; go_simp)
 refine hK.out _ _ (fun _ => ?_) (fun AA' => ?_)
 ·exact ⟨AA.1.later HBc.out, AA.2.later HBc.out⟩
 replace AA := AA' rfl
 clear AA' hK K
 try dsimp only at AA
 refine tk 4 26 (mf 9 5) AA ?_
 refine tk 5 31 (mf 9 6) AA ?_
 refine tk 6 32 (mf 9 7) AA ?_
 refine tk 7 9 (mf 9 8) AA ?_
 refine tk 8 10 (mf 9 9) AA ?_
 refine zA (by kernel_rfl) ?_ _
 have HB5 := iD AA.1
 have HS2 := iD (Sl.of_own AA.2)
 have HS4 := iD (Sl.of_own HO4.out)
 have HL2 : Hid (C2.length = nn) := HC2.out.1
 have HL4 : Hid (C4.length = nn) := HC4.out.1
 have HLV : Hid (∀ v : Nat, v < nn → shL nn ds m v = xZ (C2.getD v 0)) := fun v _ => by unfold shL lvB; rw [xn HC2.out, Int.toNat_natCast]
 clear HB3 HO3 HBb HBc AA HO2 HO4 HC2 HC4
 have k0 := HB5.out.b0.cell 0
 have hmk : (Instr.makeSlice 136 (.int .i64 nn) (.int .i64 nn)).run Tryz.prog w5 = _ := mw nn (by omega) w5
 go_upto_region 8 with (fail)
 clear k0 hmk
 have HBL : Hid (Below w5.heap.size w5 (w5.alloc (.cells (madeCells #[.bool false, .bool false, .bool false, .bool false] (nn * 4)) 140))) := (Below.refl _ w5).alloc lR _
 have HG := iD (Blk.new w5 140 (madeCells #[.bool false, .bool false, .bool false, .bool false] (nn * 4)))
 have HGW : Hid (w.heap.size ≤ w5.heap.size) := HB5.out.l.size
 generalize World.alloc w5 _ = V at *
 obtain ⟨g, hg⟩ : ∃ x, x = w5.heap.size := ⟨_, rfl⟩
 have HLT : Hid (∀ {A : Option Addr} {C : List Int}, Sl w5 w5.heap.size 1 A nn nn (zD C) → Sl V g 1 A nn nn (zD C)) := fun h => by rw [hg]; exact h.below HBL.out lR
 rw [← hg] at HG HGW ⊢
 clear hg
 refine zv [(11, 0), (0, 1), (25, 0), (0, 2), (30, 1), (0, 0)] 39 (nn) (ShR w #[.slice An nn cn, .slice Ad nd cd] A2 A4 nn g C2 C4 (shL nn ds m)) (by (try dsimp only [gt]); exact ⟨0, _, rfl, Nat.zero_le _, rfl, HG, mt _ _ _, HLT.out HS2.out, HLT.out HS4.out, HB5.out.l.trans (HBL.out.mono HB5.out.l.size)⟩) (by kernel_rfl) ?_
 intro u1 p39 gk wr a hrel ha J1 K1 hJ1 hK1
 dsimp only [zZ, Go.Proofs.YtkkobemhbicjgaaGreatDoor.v1, Nat.reduceAdd] at ha
 subst ha
 clear HG HS2 HS4 HB5 HBL HLT
 obtain ⟨k, cs, rfl, hk, rfl, hG, hC, h2, h4, hL⟩ := hrel
 have HG := iD hG.out; have HC := iD hC.out; have H2 := iD h2.out; have H4 := iD h4.out; have HL := iD hL.out
 clear hG hC h2 h4 hL
 by_cases hlt : k < nn; rotate_left
 ·have q1 : decide (k < nn) = false := by simpa using hlt
  obtain rfl : k = nn := by omega
  go_wp2_with fail
  go_ret2
  exact ⟨some ⟨g, 0, none⟩, k, rfl, fun v hv => ⟨g, 0, rfl, by rw [Nat.zero_add, HG.out.cell]; exact HC.out.2 v hv⟩, HL.out⟩
 obtain ⟨b2, o2, x2, rfl, hb2, hx2, hc2⟩ := H2.out.at1 hlt
 obtain ⟨b4, o4, x4, rfl, hb4, hx4, hc4⟩ := H4.out.at1 hlt
 obtain ⟨u0, e0⟩ := HC.out.at HG.out (j := k * 4) (by omega)
 obtain ⟨u1, e1⟩ := HC.out.at HG.out (j := k * 4 + 1) (by omega)
 obtain ⟨u2, e2⟩ := HC.out.at HG.out (j := k * 4 + 2) (by omega)
 obtain ⟨u3, e3⟩ := HC.out.at HG.out (j := k * 4 + 3) (by omega)
 have f0 := HG.out.frozen (k * 4)
 have f1 := HG.out.frozen (k * 4 + 1)
 have f2 := HG.out.frozen (k * 4 + 2)
 have f3 := HG.out.frozen (k * 4 + 3)
 obtain ⟨B1, hB1⟩ : ∃ B, B = (bits .and .i64 x2 1 != 0) := ⟨_, rfl⟩
 obtain ⟨B2, hB2⟩ : ∃ B, B = (bits .and .i64 x4 1 != 0) := ⟨_, rfl⟩
 obtain ⟨B3, hB3⟩ : ∃ B, B = (bits .and .i64 x2 2 != 0) := ⟨_, rfl⟩
 obtain ⟨B4, hB4⟩ : ∃ B, B = (bits .and .i64 x4 2 != 0) := ⟨_, rfl⟩
 have HB1E : Hid (Value.bool B1 = .bool (shL nn ds m k)) := by
  unfold Hid
  rw [HLV.out k hlt, hB1, List.getD_eq_getElem?_getD, hx2]; rfl
 have q2 := hB1.symm; have q3 := hB2.symm; have q4 := hB3.symm; have q5 := hB4.symm
 clear hB1 hB2 hB3 hB4 hx2 hx4
 have q1 : decide (k < nn) = true := by simpa using hlt
 have hn0 : nn ≤ 9223372036854775807 := by omega
 go_upto_region 10 with (fail)
 clear q1
 refine zC (S := fun W' => W'.cell? ⟨b2, o2 + k, none⟩ = some (.int .i64 x2) ∧ W'.cell? ⟨b4, o4 + k, none⟩ = some (.int .i64 x4)) (J := [28]) (by kernel_rfl) ?_ (fun AA => ?_)
 ·exact ⟨hc2, hc4⟩
 try dsimp only at AA
 refine tk 0 42 (mf 29 1) AA ?_
 refine tk 1 43 (mf 29 2) AA ?_
 refine tk 2 44 (mf 29 3) AA ?_
 refine tk 3 45 (mf 29 4) AA ?_
 refine tk 4 46 (mf 29 5) AA ?_
 refine tx 5 47 ?_ (mf 29 6) ?_ AA ?_
 rotate_left
 ·(intro w hSw; (try dsimp only at hSw); have c2 := hSw.1; go_simp; try with_reducible rfl)
 try simp only [Act.put, sA, sB, sC]
 refine tk 6 48 (mf 29 7) AA ?_
 refine tk 7 49 (mf 29 8) AA ?_
 refine tk 8 50 (mf 29 9) AA ?_
 refine tk 9 51 (mf 29 10) AA ?_
 refine tk 10 52 (mf 29 11) AA ?_
 refine tx 11 53 ?_ (mf 29 12) ?_ AA ?_
 rotate_left
 ·(intro w hSw; (try dsimp only at hSw); have c4 := hSw.2; go_simp; try with_reducible rfl)
 try simp only [Act.put, sA, sB, sC]
 refine tk 12 54 (mf 29 13) AA ?_
 refine tk 13 55 (mf 29 14) AA ?_
 refine tk 14 56 (mf 29 15) AA ?_
 refine tk 15 57 (mf 29 16) AA ?_
 refine tk 16 58 (mf 29 17) AA ?_
 refine tx 17 59 ?_ (mf 29 18) ?_ AA ?_
 rotate_left
 ·(intro w hSw; (try dsimp only at hSw); have c2 := hSw.1; go_simp; try with_reducible rfl)
 try simp only [Act.put, sA, sB, sC]
 refine tk 18 60 (mf 29 19) AA ?_
 refine tk 19 61 (mf 29 20) AA ?_
 refine tk 20 62 (mf 29 21) AA ?_
 refine tk 21 63 (mf 29 22) AA ?_
 refine tk 22 64 (mf 29 23) AA ?_
 refine tx 23 65 ?_ (mf 29 24) ?_ AA ?_
 rotate_left
 ·(intro w hSw; (try dsimp only at hSw); have c4 := hSw.2; go_simp; try with_reducible rfl)
 try simp only [Act.put, sA, sB, sC]
 refine tk 24 66 (mf 29 25) AA ?_
 refine tk 25 67 (mf 29 26) AA ?_
 refine tk 26 68 (mf 29 27) AA ?_
 refine tk 27 69 (mf 29 28) AA ?_
 refine tb 28 (mf 29 29) fun K hK => ?_
 go_simp
 refine hK.out _ _ (fun h => by cases h) (fun _ => ?_)
 try clear AA
 clear hK K
 refine zA (by kernel_rfl) ?_ _
 have HG1 : Hid (Blk (((((wr.setCell ⟨g, k * 4, none⟩ (.bool B1)).setCell ⟨g, k * 4 + 1, none⟩ (.bool B2)).setCell ⟨g, k * 4 + 2, none⟩ (.bool B3)).setCell ⟨g, k * 4 + 3, none⟩ (.bool B4)).drew) g 140 ((((cs.setIfInBounds (k * 4) (.bool B1)).setIfInBounds (k * 4 + 1) (.bool B2)).setIfInBounds (k * 4 + 2) (.bool B3)).setIfInBounds (k * 4 + 3) (.bool B4))) := (((HG.out.set _ _).set _ _).set _ _).set _ _
 have HC1 := iD (HC.out.step (b := .bool B2) (c := .bool B3) (d := .bool B4) hlt HB1E.out)
 have HL1 : Hid (Below w.heap.size w (((((wr.setCell ⟨g, k * 4, none⟩ (.bool B1)).setCell ⟨g, k * 4 + 1, none⟩ (.bool B2)).setCell ⟨g, k * 4 + 2, none⟩ (.bool B3)).setCell ⟨g, k * 4 + 3, none⟩ (.bool B4)).drew)) := ((((HL.out.setCell HGW.out _).setCell HGW.out _).setCell HGW.out _).setCell HGW.out _).drew
 have H21 : Hid (Sl (((((wr.setCell ⟨g, k * 4, none⟩ (.bool B1)).setCell ⟨g, k * 4 + 1, none⟩ (.bool B2)).setCell ⟨g, k * 4 + 2, none⟩ (.bool B3)).setCell ⟨g, k * 4 + 3, none⟩ (.bool B4)).drew) g 1 (some ⟨b2, o2, none⟩) nn nn (zD C2)) := (((H2.out.setCell (p := ⟨g, k * 4, none⟩) lR _).setCell (p := ⟨g, k * 4 + 1, none⟩) lR _).setCell (p := ⟨g, k * 4 + 2, none⟩) lR _).setCell (p := ⟨g, k * 4 + 3, none⟩) lR _
 have H41 : Hid (Sl (((((wr.setCell ⟨g, k * 4, none⟩ (.bool B1)).setCell ⟨g, k * 4 + 1, none⟩ (.bool B2)).setCell ⟨g, k * 4 + 2, none⟩ (.bool B3)).setCell ⟨g, k * 4 + 3, none⟩ (.bool B4)).drew) g 1 (some ⟨b4, o4, none⟩) nn nn (zD C4)) := (((H4.out.setCell (p := ⟨g, k * 4, none⟩) lR _).setCell (p := ⟨g, k * 4 + 1, none⟩) lR _).setCell (p := ⟨g, k * 4 + 2, none⟩) lR _).setCell (p := ⟨g, k * 4 + 3, none⟩) lR _
 clear HG HC H2 H4 HL e0 e1 e2 e3 f0 f1 f2 f3 q2 q3 q4 q5 hc2 hc4 HB1E
 generalize World.drew (World.setCell (World.setCell (World.setCell (World.setCell wr _ _) _ _) _ _) _ _) = X at *
 have hkk : IntKind.i64.wrap ((k : Int) + 1) = (k : Int) + 1 := IntWalk.i64_in _ (by omega)
 go_wp2_with fail
 refine Handed.intro (nn - (k + 1)) (by omega) (hJ1 _ _ _ (yw.back 39 ?_ (by kernel_rfl)))
 dsimp only [gt]
 exact ⟨k + 1, _, by go_num, hlt, rfl, HG1, HC1, H21, H41, HL1⟩
end
section
open Go.RowKit
theorem fQ {ns : List Nd} {ds : List Dv} {co : Int} {m : List Int} {ls : List Lk} {pr : List Int} {d no p q : Int} : zu ns ds co ⟨m, ls, pr⟩ ⟨3, d, no, p, q⟩ = if (yH ⟨m, ls, pr⟩ d p).ov then ⟨0, (yH ⟨m, ls, pr⟩ d p).h, ⟨(yH ⟨m, ls, pr⟩ d p).t.s, ls, pr⟩, true⟩ else if (zX ns ds ls ⟨3, d, no, p, q⟩).2 then ⟨0, (yH ⟨m, ls, pr⟩ d p).h, ⟨(yH ⟨m, ls, pr⟩ d p).t.s, (zX ns ds ls ⟨3, d, no, p, q⟩).1, pr⟩, false⟩ else ⟨0, 4 :: (yH ⟨m, ls, pr⟩ d p).h, ⟨(yH ⟨m, ls, pr⟩ d p).t.s, ls, pr⟩, false⟩ := by
 rw [sc (.inl rfl)]
 unfold yH
 dsimp only
 by_cases h : rF (m.getD d.toNat 0) p = true
 ·rw [if_pos h, if_pos h]; rfl
 ·rw [if_neg h, if_neg h, if_neg (by decide)]; rfl
theorem jD (t : Sm) (d p : Int) : (yH t d p).h.length ≤ 1 := by
 unfold yH
 split
 ·exact Nat.le_refl _
 ·unfold uR; split
  ·exact Nat.zero_le _
  ·exact Nat.le_refl _
theorem lC (An Ad As Al Ap : Option Addr) (nn cn nd cd n c nl cl np cp : Nat) (ns : List Nd) (ds : List Dv) (m : List Int) (ls : List Lk) (pr : List Int) (co k d no p q : Int) (w : World) (h : yX w An Ad As Al Ap nn cn nd cd n c nl cl np cp ns ds m ls pr) (hok : wX ns ds ⟨m, ls, pr⟩) (hx : zT ns.length ds.length ⟨k, d, no, p, q⟩ = 0) (hco : 0 ≤ co ∧ co ≤ 7) (hk : k = 5) :
 Calls Tryz.prog 115 #[.agg #[.slice An nn cn, .slice Ad nd cd], .agg #[.slice As n c, .int .i64 co, .slice Al nl cl, .slice Ap np cp, .bool false], .agg #[.int .i64 k, .int .i64 d, .int .i64 no, .int .i64 p, .int .i64 q]] w (uP w As Al Ap n nl np co (zu ns ds co ⟨m, ls, pr⟩ ⟨k, d, no, p, q⟩)) := by
 obtain ⟨hln, hld, hls⟩ := h.ln
 have hlp : pr.length = np := h.hp.len (fun _ => rfl) (by decide)
 have HH := iD h
 have HB := iD (Bxs.new4 w (30, #[.slice An nn cn, .slice Ad nd cd]) (96, #[.slice As n c, .int .i64 co, .slice Al nl cl, .slice Ap np cp, .bool false]) (43, #[.int .i64 k, .int .i64 d, .int .i64 no, .int .i64 p, .int .i64 q]) (96, #[.slice none 0 0, .int .i64 0, .slice none 0 0, .slice none 0 0, .bool false]))
 obtain ⟨hx1, hx2, hx3, hx4, hx5⟩ := yE hx
 have hn5 := hx3 hk
 dsimp only at hx1 hx2 hx3 hx4 hx5 hn5
 obtain ⟨hcn, hsl, -⟩ := zV hok.s
 have HNK := iD (yt.of hcn)
 have HOK := iD hok
 have hnn : nn ≤ 32 := by have := HNK.out.nl; omega
 have hnd : nd ≤ 64 := by have := HNK.out.dl; omega
 dsimp only at hsl
 have HCO := iD hco
 have HK := iD hk
 clear h hok hx hcn hco hk
 go_enter Tryz.func115, Tryz.ntmps115
 go_upto_region 1 with (fail)
 dsimp only at HB
 generalize World.alloc (World.alloc (World.alloc (World.alloc w _) _) _) _ = W at *
 rw [show w.heap.size + 1 + 1 = w.heap.size + 2 from rfl, show w.heap.size + 2 + 1 = w.heap.size + 3 from rfl]
 have HM := iD (HH.out.below HB.out.l)
 have hk := HK.out
 clear HK
 subst hk
 obtain ⟨v, rfl⟩ := Int.eq_ofNat_of_zero_le hn5.1
 have hv : v < nn := by omega
 clear hx1 hx2 hx3 hx4 hx5 hn5
 have HSH := iD (oZ An Ad As nn cn nd cd n c ns ds m W HM.out.la HM.out.hn HM.out.hd HM.out.hs HM.out.sn HM.out.sd HOK.out.s)
 have k0 := HB.out.b0.c0
 have k1 := HB.out.b0.c1
 have g0 := HB.out.b1.c0
 have g1 := HB.out.b1.c1
 have g2 := HB.out.b1.c2
 have g3 := HB.out.b1.c3
 have g4 := HB.out.b1.c4
 go_wp2_with fail
 clear k0 k1 g0 g1 g2 g3 g4
 refine HSH.out.mono ?_
 rintro e w1 ⟨A, cA, rfl, hS, hb⟩
 have HB1 := iD (HB.out.later hb.out)
 obtain ⟨b, o, rfl, hc⟩ := hS.out v hv
 have HLV : Hid (lvB (zh ns.length ds (xB m 2)) (v : Int) = shL nn ds m v) := by unfold Hid shL; rw [hln]
 clear hS hb HSH HB HM
 obtain ⟨L, hL⟩ : ∃ L, L = shL nn ds m v := ⟨_, rfl⟩
 rw [← hL] at hc HLV
 clear hL
 have s2 := HB1.out.b2.c2
 have hn0 : nn ≤ 9223372036854775807 := by omega
 rcases L with _ | _
 ·have HT : Hid (zu ns ds co ⟨m, ls, pr⟩ ⟨5, d, v, p, q⟩ = ⟨0, [], ⟨m, ls, yr pr v⟩, false⟩) := by unfold Hid; rw [jh rfl]; dsimp only; rw [HLV.out]; rfl
  go_upto_region 4 with (fail)
  clear hc
  have g0 := HB1.out.b1.c0
  have g1 := HB1.out.b1.c1
  have g2 := HB1.out.b1.c2
  have g3 := HB1.out.b1.c3
  have g4 := HB1.out.b1.c4
  go_wp2_with fail
  clear g0 g1 g2 g3 g4 s2
  refine (sH Al Ap nl cl np cp co v pr w1 (HH.out.below HB1.out.l).hp (by have := uc HOK.out.p; dsimp only at this; omega) (vN _ _ _ |>.mp HOK.out.p).2).mono ?_
  rintro e V ⟨A4, n4, c4, rfl, hS, hW, hb⟩
  have HBV := iD (HB1.out.later hb.out)
  have HS4 := iD hS.out
  have HZ1 : Hid (w.heap.size + 4 ≤ w1.heap.size) := HB1.out.b3.lt
  have HWN : Hid (Sl w w.heap.size 1 A4 n4 c4 (zD (yr pr v)) ∨ ∀ b off, A4 = some ⟨b, off, none⟩ → w.heap.size + 4 ≤ b) := by
   rcases hW.out with ⟨rfl, rfl, rfl, e⟩ | h
   ·left; rw [e]; exact HH.out.hp
   ·right; intro b off e; have := h b off e; have := HZ1.out; omega
  have HWF : Hid (Fre w.heap.size Ap A4 np n4) := by
   rcases hW.out with ⟨h, h2, -⟩ | h
   ·exact .inl ⟨h, h2⟩
   ·exact .inr fun b off e => by have := h b off e; have := HZ1.out; omega
  clear hS hW hb HB1
  have g1 := HBV.out.b1.cell 1; have g2 := HBV.out.b1.cell 2; have g3 := HBV.out.b1.cell 3
  have f1 := HBV.out.b1.frozen 1; have f2 := HBV.out.b1.frozen 2; have f3 := HBV.out.b1.frozen 3
  go_upto_region 5 with (fail)
  clear g1 g2 g3 f1 f2 f3
  have HBX : Hid (Bxs w [(30, #[.slice An nn cn, .slice Ad nd cd]), (96, #[.slice As n c, .int .i64 co, .slice Al nl cl, .slice A4 n4 c4, .bool false]), (43, #[.int .i64 5, .int .i64 d, .int .i64 v, .int .i64 p, .int .i64 q]), (96, #[.slice none 0 0, .int .i64 0, .slice none 0 0, .slice none 0 0, .bool false])] (((V.setCell ⟨w.heap.size + 1, 1, none⟩ (.int .i64 co)).setCell ⟨w.heap.size + 1, 2, none⟩ (.slice Al nl cl)).setCell ⟨w.heap.size + 1, 3, none⟩ (.slice A4 n4 c4))) := ((HBV.out.set 1 1 (.int .i64 co) rfl).set 1 2 (.slice Al nl cl) rfl).set 1 3 (.slice A4 n4 c4) rfl
  have HSX : Hid (∀ {z0 n0 c0 : Nat} {A0 : Option Addr} {x0 : List Value}, Sl V V.heap.size z0 A0 n0 c0 x0 → (∀ b off, A0 = some ⟨b, off, none⟩ → w.heap.size + 4 ≤ b) → Sl (((V.setCell ⟨w.heap.size + 1, 1, none⟩ (.int .i64 co)).setCell ⟨w.heap.size + 1, 2, none⟩ (.slice Al nl cl)).setCell ⟨w.heap.size + 1, 3, none⟩ (.slice A4 n4 c4)) (((V.setCell ⟨w.heap.size + 1, 1, none⟩ (.int .i64 co)).setCell ⟨w.heap.size + 1, 2, none⟩ (.slice Al nl cl)).setCell ⟨w.heap.size + 1, 3, none⟩ (.slice A4 n4 c4)).heap.size z0 A0 n0 c0 x0) := fun h hf => ((((h.ne (i := 1) (fun b off e => by have := hf b off e; omega)).ne (i := 2) (fun b off e => by have := hf b off e; omega)).ne (i := 3) (fun b off e => by have := hf b off e; omega))).more (by simp [World.setCell])
  have HSP := iD (HSX.out HS4.out)
  clear HBV HS4 HSX
  generalize World.setCell (World.setCell (World.setCell V _ _) _ _) _ _ = X at *
  have g0 := HBX.out.b1.c0
  have g1 := HBX.out.b1.c1
  have g2 := HBX.out.b1.c2
  have g3 := HBX.out.b1.c3
  have g4 := HBX.out.b1.c4
  have d0 := HBX.out.b3.cell 0; have y0 := HBX.out.b3.frozen 0
  have d1 := HBX.out.b3.cell 1; have y1 := HBX.out.b3.frozen 1
  have d2 := HBX.out.b3.cell 2; have y2 := HBX.out.b3.frozen 2
  have d3 := HBX.out.b3.cell 3; have y3 := HBX.out.b3.frozen 3
  have d4 := HBX.out.b3.cell 4; have y4 := HBX.out.b3.frozen 4
  refine zC (S := fun W' => W'.cell? ⟨w.heap.size + 1, 0, none⟩ = some (.slice As n c) ∧ W'.cell? ⟨w.heap.size + 1, 1, none⟩ = some (.int .i64 co) ∧ W'.cell? ⟨w.heap.size + 1, 2, none⟩ = some (.slice Al nl cl) ∧ W'.cell? ⟨w.heap.size + 1, 3, none⟩ = some (.slice A4 n4 c4) ∧ W'.cell? ⟨w.heap.size + 1, 4, none⟩ = some (.bool false)) (J := [2, 3]) (by kernel_rfl) ?_ (fun AA => ?_)
  ·exact ⟨g0, g1, g2, g3, g4⟩
  try dsimp only at AA
  refine tk 0 37 (mf 4 1) AA ?_
  refine tk 1 6 (mf 4 2) AA ?_
  refine tb 2 (mf 4 3) fun K hK => ?_
  go_simp
  refine hK.out _ _ (fun h => by cases h) (fun _ => ?_)
  try clear AA
  clear hK K
  refine tb 3 (mf 4 4) fun K hK => ?_
  go_simp
  refine hK.out _ _ (fun h => by cases h) (fun _ => ?_)
  try clear AA
  clear hK K
  refine zA (by kernel_rfl) ?_ _
  have HE := iD (HBX.out.st5 (.slice As n c) (.int .i64 co) (.slice Al nl cl) (.slice A4 n4 c4) (.bool false)).drew; unfold st5 at HE
  have HSO : Hid (yZ ((st5 X (w.heap.size + 3) (.slice As n c) (.int .i64 co) (.slice Al nl cl) (.slice A4 n4 c4) (.bool false))).drew none As Al A4 0 0 n c nl cl n4 c4 ⟨[], ⟨m, ls, yr pr v⟩, true⟩) := ⟨Sl.nil _ _ _, (HH.out.below HE.out.l).hs, (HH.out.below HE.out.l).hl, vZ HWN.out HE.out.l (fun hf => tY (HSP.out hf) (fun b off e => by have := hf b off e; omega))⟩
  unfold st5 at HSO
  clear d0 d1 d2 d3 d4 y0 y1 y2 y3 y4 g0 g1 g2 g3 g4
  go_wp2_with fail
  generalize World.drew (World.setCell (World.setCell (World.setCell (World.setCell (World.setCell X _ _) _ _) _ _) _ _) _ _) = z at *
  have q0 := HE.out.b3.c0
  have q1 := HE.out.b3.c1
  have q2 := HE.out.b3.c2
  have q3 := HE.out.b3.c3
  have q4 := HE.out.b3.c4
  exact bodyPost_ret (v := .tuple #[.slice none 0 0, .agg #[.slice As n c, .int .i64 co, .slice Al nl cl, .slice A4 n4 c4, .bool false], .int .i64 0]) (by simp [results, Tryz.results115, go_sem, q0, q1, q2, q3, q4]) rfl ⟨_, _, _, _, _, _, _, _, _, _, _, _, by rw [HT.out], by rw [HT.out]; exact fun _ => HSO.out, ⟨.inl ⟨rfl, rfl⟩, .inl ⟨rfl, rfl⟩, .inl ⟨rfl, rfl⟩, HWF.out⟩, HE.out.l⟩
 ·have HT : Hid (zu ns ds co ⟨m, ls, pr⟩ ⟨5, d, v, p, q⟩ = ⟨0, [8], ⟨m, ls, pr⟩, false⟩) := by unfold Hid; rw [jh rfl]; dsimp only; rw [HLV.out]; rfl
  go_upto_region 3 with (fail)
  clear hc s2
  have g0 := HB1.out.b1.c0
  have g1 := HB1.out.b1.c1
  have g2 := HB1.out.b1.c2
  have g3 := HB1.out.b1.c3
  have g4 := HB1.out.b1.c4
  have HBLA : Hid (Below w1.heap.size w1 (w1.alloc (.cells #[.int .i64 8] 3)).drew) := ((Below.refl w1.heap.size w1).alloc lR (.cells #[.int .i64 8] 3)).drew
  have HBA := iD (HB1.out.later HBLA.out)
  have HVA : Hid (Blk (w1.alloc (.cells #[.int .i64 8] 3)).drew w1.heap.size 3 #[.int .i64 8]) := Blk.new w1 3 #[.int .i64 8]
  have hqq : w1.heap.size ≠ w.heap.size + 3 := by have := HB1.out.b3.lt; omega
  refine zC (S := fun W' => W'.cell? ⟨w.heap.size + 1, 0, none⟩ = some (.slice As n c) ∧ W'.cell? ⟨w.heap.size + 1, 1, none⟩ = some (.int .i64 co) ∧ W'.cell? ⟨w.heap.size + 1, 2, none⟩ = some (.slice Al nl cl) ∧ W'.cell? ⟨w.heap.size + 1, 3, none⟩ = some (.slice Ap np cp) ∧ W'.cell? ⟨w.heap.size + 1, 4, none⟩ = some (.bool false)) (J := [5]) (by kernel_rfl) ?_ (fun AA => ?_)
  ·exact ⟨g0, g1, g2, g3, g4⟩
  try dsimp only at AA
  refine tk 1 29 (ma 6 2) AA ?_
  refine tk 2 30 (ma 6 6) AA ?_
  refine tb 0 (mf 6 3) fun K hK => ?_
  go_simp
  refine hK.out _ _ (fun _ => ?_) (fun AA' => ?_)
  ·exact ⟨HBA.out.b1.cell 0, HBA.out.b1.cell 1, HBA.out.b1.cell 2, HBA.out.b1.cell 3, HBA.out.b1.cell 4⟩
  replace AA := AA' rfl
  clear AA' hK K
  try dsimp only at AA
  generalize World.drew (World.alloc w1 _) = wa at *
  have d0 := HBA.out.b3.cell 0; have y0 := HBA.out.b3.frozen 0; have d1 := HBA.out.b3.cell 1; have y1 := HBA.out.b3.frozen 1; have d2 := HBA.out.b3.cell 2; have y2 := HBA.out.b3.frozen 2; have d3 := HBA.out.b3.cell 3; have y3 := HBA.out.b3.frozen 3; have d4 := HBA.out.b3.cell 4; have y4 := HBA.out.b3.frozen 4
  refine tk 3 6 (mf 6 4) AA ?_
  have HE := iD (HBA.out.st5 (.slice As n c) (.int .i64 co) (.slice Al nl cl) (.slice Ap np cp) (.bool false)); unfold st5 at HE
  refine tb 4 (mf 6 5) fun K hK => ?_
  go_simp
  refine hK.out _ _ (fun _ => ?_) (fun AA' => ?_)
  ·exact ⟨(HE.out.b1.cell 0), (HE.out.b1.cell 1), (HE.out.b1.cell 2), (HE.out.b1.cell 3), (HE.out.b1.cell 4)⟩
  replace AA := AA' rfl
  clear AA' hK K
  try dsimp only at AA
  refine tb 5 (mf 6 6) fun K hK => ?_
  go_simp
  refine hK.out _ _ (fun h => by cases h) (fun _ => ?_)
  try clear AA
  clear hK K
  refine zA (by kernel_rfl) ?_ _
  have HSO : Hid (yZ ((st5 wa (w.heap.size + 3) (.slice As n c) (.int .i64 co) (.slice Al nl cl) (.slice Ap np cp) (.bool false))) (some ⟨w1.heap.size, 0, none⟩) As Al Ap 1 1 n c nl cl np cp ⟨[8], ⟨m, ls, pr⟩, true⟩) := ⟨xj (ij HVA.out hqq), (HH.out.below HE.out.l).hs, (HH.out.below HE.out.l).hl, (HH.out.below HE.out.l).hp⟩
  unfold st5 at HSO
  clear d0 d1 d2 d3 d4 y0 y1 y2 y3 y4 g0 g1 g2 g3 g4
  go_wp2_with fail
  generalize World.setCell (World.setCell (World.setCell (World.setCell (World.setCell wa _ _) _ _) _ _) _ _) _ _ = z at *
  have q0 := HE.out.b3.c0
  have q1 := HE.out.b3.c1
  have q2 := HE.out.b3.c2
  have q3 := HE.out.b3.c3
  have q4 := HE.out.b3.c4
  exact bodyPost_ret (v := .tuple #[.slice (some ⟨w1.heap.size, 0, none⟩) 1 1, .agg #[.slice As n c, .int .i64 co, .slice Al nl cl, .slice Ap np cp, .bool false], .int .i64 0]) (by simp [results, Tryz.results115, go_sem, q0, q1, q2, q3, q4]) rfl ⟨_, _, _, _, _, _, _, _, _, _, _, _, by rw [HT.out], by rw [HT.out]; exact fun _ => HSO.out, ⟨.inr (fun b off e => by injection e with e; injection e with e1 e2; rw [← e1]; exact HB1.out.l.size), .inl ⟨rfl, rfl⟩, .inl ⟨rfl, rfl⟩, .inl ⟨rfl, rfl⟩⟩, HE.out.l⟩
theorem jE (An Ad As Al Ap : Option Addr) (nn cn nd cd n c nl cl np cp : Nat) (ns : List Nd) (ds : List Dv) (m : List Int) (ls : List Lk) (pr : List Int) (co k d no p q : Int) (w : World) (h : yX w An Ad As Al Ap nn cn nd cd n c nl cl np cp ns ds m ls pr) (hok : wX ns ds ⟨m, ls, pr⟩) (hx : zT ns.length ds.length ⟨k, d, no, p, q⟩ = 0) (hco : 0 ≤ co ∧ co ≤ 7) (hk : k = 3) :
 Calls Tryz.prog 113 #[.agg #[.slice An nn cn, .slice Ad nd cd], .agg #[.slice As n c, .int .i64 co, .slice Al nl cl, .slice Ap np cp, .bool false], .agg #[.int .i64 k, .int .i64 d, .int .i64 no, .int .i64 p, .int .i64 q]] w (uP w As Al Ap n nl np co (zu ns ds co ⟨m, ls, pr⟩ ⟨k, d, no, p, q⟩)) := by
 obtain ⟨hln, hld, hls⟩ := h.ln
 have hlp : pr.length = np := h.hp.len (fun _ => rfl) (by decide)
 have HH := iD h
 have HB := iD (Bxs.new4 w (30, #[.slice An nn cn, .slice Ad nd cd]) (96, #[.slice As n c, .int .i64 co, .slice Al nl cl, .slice Ap np cp, .bool false]) (43, #[.int .i64 k, .int .i64 d, .int .i64 no, .int .i64 p, .int .i64 q]) (96, #[.slice none 0 0, .int .i64 0, .slice none 0 0, .slice none 0 0, .bool false]))
 obtain ⟨hx1, hx2, hx3, hx4, hx5⟩ := yE hx
 dsimp only at hx1 hx2 hx3 hx4 hx5
 obtain ⟨hcn, hsl, -⟩ := zV hok.s
 have HNK := iD (yt.of hcn)
 have HOK := iD hok
 have hnn : nn ≤ 32 := by have := HNK.out.nl; omega
 have hnd : nd ≤ 64 := by have := HNK.out.dl; omega
 dsimp only at hsl
 have HCO := iD hco
 have HK := iD hk
 have HXX := iD hx
 clear h hok hx hcn hco hk
 go_enter Tryz.func113, Tryz.ntmps113
 go_upto_region 1 with (fail)
 dsimp only at HB
 generalize World.alloc (World.alloc (World.alloc (World.alloc w _) _) _) _ = W at *
 rw [show w.heap.size + 1 + 1 = w.heap.size + 2 from rfl, show w.heap.size + 2 + 1 = w.heap.size + 3 from rfl]
 have HM := iD (HH.out.below HB.out.l)
 have hk := HK.out
 clear HK
 subst hk
 clear hx1 hx2 hx3 hx4 hx5
 obtain ⟨O, hO⟩ : ∃ O, O = yH ⟨m, ls, pr⟩ d p := ⟨_, rfl⟩
 have HLK0 := iD (pY An Ad As Al Ap nn cn nd cd n c nl cl np cp ns ds m ls pr co 3 d no p q W HM.out HOK.out HXX.out HCO.out (.inl rfl))
 rw [← hO] at HLK0
 have HT0 : Hid (zu ns ds co ⟨m, ls, pr⟩ ⟨3, d, no, p, q⟩ = if O.ov then ⟨0, O.h, ⟨O.t.s, ls, pr⟩, true⟩ else if (zX ns ds ls ⟨3, d, no, p, q⟩).2 then ⟨0, O.h, ⟨O.t.s, (zX ns ds ls ⟨3, d, no, p, q⟩).1, pr⟩, false⟩ else ⟨0, 4 :: O.h, ⟨O.t.s, ls, pr⟩, false⟩) := by
  unfold Hid
  rw [hO, fQ]
 have HOH : Hid (O.h.length ≤ 1) := by unfold Hid; rw [hO]; exact jD _ _ _
 clear hO
 have k0 := HB.out.b0.c0
 have k1 := HB.out.b0.c1
 have g0 := HB.out.b1.c0
 have g1 := HB.out.b1.c1
 have g2 := HB.out.b1.c2
 have g3 := HB.out.b1.c3
 have g4 := HB.out.b1.c4
 have s0 := HB.out.b2.c0
 have s1 := HB.out.b2.c1
 have s2 := HB.out.b2.c2
 have s3 := HB.out.b2.c3
 have s4 := HB.out.b2.c4
 go_wp2_with fail
 clear k0 k1 g0 g1 g2 g3 g4 s0 s1 s2 s3 s4
 refine HLK0.out.mono ?_
 rintro e w1 ⟨A1, A2, n1, c1, c2, rfl, hS1, hS2, hF1, hF2, hb⟩
 have HB1 := iD (HB.out.later hb.out)
 have HWZ0 : Hid (w.heap.size + 4 ≤ W.heap.size) := HB.out.b3.lt
 have HS1 := iD hS1.out
 have HS2 := iD hS2.out
 have HN1 : Hid (O.h.length = n1) := hS1.out.len (fun _ => rfl) (by decide)
 have HF1 : Hid (Fre w.heap.size none A1 0 n1) := by
  rcases hF1.out with h | h
  ·exact .inl h
  ·exact .inr fun b off e => by have := h b off e; have := HWZ0.out; omega
 have HG1 : Hid (∀ b off, A1 = some ⟨b, off, none⟩ → w.heap.size + 4 ≤ b) := by
  rcases hF1.out with ⟨h, -⟩ | h
  ·exact fun b off e => by rw [h] at e; cases e
  ·exact fun b off e => by have := h b off e; have := HWZ0.out; omega
 have HF2 : Hid (Sl w w.heap.size 1 A2 n c2 (zD O.t.s) ∨ ∀ b off, A2 = some ⟨b, off, none⟩ → w.heap.size + 4 ≤ b) := by
  rcases hF2.out with ⟨rfl, rfl, e⟩ | h
  ·left; rw [e]; exact HH.out.hs
  ·right; intro b off e; have := h b off e; have := HWZ0.out; omega
 have HF2F : Hid (Fre w.heap.size As A2 n n) := by
  rcases hF2.out with ⟨h, -⟩ | h
  ·exact .inl ⟨h, rfl⟩
  ·exact .inr fun b off e => by have := h b off e; have := HWZ0.out; omega
 clear hS1 hS2 hF1 hF2 hb HLK0 HB HM HXX HCO
 have g0 := HB1.out.b1.cell 0; have g1 := HB1.out.b1.cell 1; have g2 := HB1.out.b1.cell 2; have g3 := HB1.out.b1.cell 3; have g4 := HB1.out.b1.cell 4
 have f0 := HB1.out.b1.frozen 0; have f1 := HB1.out.b1.frozen 1; have f2 := HB1.out.b1.frozen 2; have f3 := HB1.out.b1.frozen 3; have f4 := HB1.out.b1.frozen 4
 go_upto_region 2 with (fail)
 clear g0 g1 g2 g3 g4 f0 f1 f2 f3 f4
 have HBY : Hid (Bxs w [(30, #[.slice An nn cn, .slice Ad nd cd]), (96, #[.slice A2 n c2, .int .i64 co, .slice Al nl cl, .slice Ap np cp, .bool O.ov]), (43, #[.int .i64 3, .int .i64 d, .int .i64 no, .int .i64 p, .int .i64 q]), (96, #[.slice none 0 0, .int .i64 0, .slice none 0 0, .slice none 0 0, .bool false])] (st5 w1 (w.heap.size + 1) (.slice A2 n c2) (.int .i64 co) (.slice Al nl cl) (.slice Ap np cp) (.bool O.ov))) := ((((HB1.out.set 1 0 (.slice A2 n c2) rfl).set 1 1 (.int .i64 co) rfl).set 1 2 (.slice Al nl cl) rfl).set 1 3 (.slice Ap np cp) rfl).set 1 4 (.bool O.ov) rfl
 have HS1Y := iD (sl5 (x := w.heap.size + 1) (a := .slice A2 n c2) (b := .int .i64 co) (d := .slice Al nl cl) (e := .slice Ap np cp) (f := .bool O.ov) HS1.out (fun b off e => by have := HG1.out b off e; omega))
 have HS2Y : Hid ((∀ b off, A2 = some ⟨b, off, none⟩ → w.heap.size + 4 ≤ b) → Sl (st5 w1 (w.heap.size + 1) (.slice A2 n c2) (.int .i64 co) (.slice Al nl cl) (.slice Ap np cp) (.bool O.ov)) (st5 w1 (w.heap.size + 1) (.slice A2 n c2) (.int .i64 co) (.slice Al nl cl) (.slice Ap np cp) (.bool O.ov)).heap.size 1 A2 n c2 (zD O.t.s)) := fun hf => sl5 HS2.out (fun b off e => by have := hf b off e; omega)
 unfold st5 at HBY HS1Y HS2Y
 clear HB1 HS1 HS2
 generalize World.setCell (World.setCell (World.setCell (World.setCell (World.setCell w1 _ _) _ _) _ _) _ _) _ _ = Y at *
 have g4 := HBY.out.b1.c4
 rcases hov : O.ov with _ | _; rotate_left
 ·rw [hov] at g4 HBY
  have HT : Hid (zu ns ds co ⟨m, ls, pr⟩ ⟨3, d, no, p, q⟩ = ⟨0, O.h, ⟨O.t.s, ls, pr⟩, true⟩) := by unfold Hid; rw [HT0.out, if_pos hov]
  clear hov
  go_upto_region 3 with (fail)
  clear g4
  have g0 := HBY.out.b1.c0
  have g1 := HBY.out.b1.c1
  have g2 := HBY.out.b1.c2
  have g3 := HBY.out.b1.c3
  have g4 := HBY.out.b1.c4
  have d0 := HBY.out.b3.cell 0; have y0 := HBY.out.b3.frozen 0
  have d1 := HBY.out.b3.cell 1; have y1 := HBY.out.b3.frozen 1
  have d2 := HBY.out.b3.cell 2; have y2 := HBY.out.b3.frozen 2
  have d3 := HBY.out.b3.cell 3; have y3 := HBY.out.b3.frozen 3
  have d4 := HBY.out.b3.cell 4; have y4 := HBY.out.b3.frozen 4
  refine zC (S := fun W' => W'.cell? ⟨w.heap.size + 1, 0, none⟩ = some (.slice A2 n c2) ∧ W'.cell? ⟨w.heap.size + 1, 1, none⟩ = some (.int .i64 co) ∧ W'.cell? ⟨w.heap.size + 1, 2, none⟩ = some (.slice Al nl cl) ∧ W'.cell? ⟨w.heap.size + 1, 3, none⟩ = some (.slice Ap np cp) ∧ W'.cell? ⟨w.heap.size + 1, 4, none⟩ = some (.bool true)) (J := [5]) (by kernel_rfl) ?_ (fun AA => ?_)
  ·exact ⟨g0, g1, g2, g3, g4⟩
  try dsimp only at AA
  refine tk 0 23 (mf 6 1) AA ?_
  refine tk 1 24 (mf 6 2) AA ?_
  refine tk 2 25 (mf 6 3) AA ?_
  refine tk 3 6 (mf 6 4) AA ?_
  have HE := iD (HBY.out.st5 (.slice A2 n c2) (.int .i64 co) (.slice Al nl cl) (.slice Ap np cp) (.bool true)).drew; unfold st5 at HE
  refine tb 4 (mf 6 5) fun K hK => ?_
  go_simp
  refine hK.out _ _ (fun _ => ?_) (fun AA' => ?_)
  ·exact ⟨(HE.out.b1.cell 0), (HE.out.b1.cell 1), (HE.out.b1.cell 2), (HE.out.b1.cell 3), (HE.out.b1.cell 4)⟩
  replace AA := AA' rfl
  clear AA' hK K
  try dsimp only at AA
  refine tb 5 (mf 6 6) fun K hK => ?_
  go_simp
  refine hK.out _ _ (fun h => by cases h) (fun _ => ?_)
  try clear AA
  clear hK K
  refine zA (by kernel_rfl) ?_ _
  have HSO : Hid (yZ ((st5 Y (w.heap.size + 3) (.slice A2 n c2) (.int .i64 co) (.slice Al nl cl) (.slice Ap np cp) (.bool true))).drew A1 A2 Al Ap n1 c1 n c2 nl cl np cp ⟨O.h, ⟨O.t.s, ls, pr⟩, true⟩) := ⟨tY HS1Y.out (fun b off e => by have := HG1.out b off e; omega), vZ HF2.out HE.out.l (fun hf => tY (HS2Y.out hf) (fun b off e => by have := hf b off e; omega)), (HH.out.below HE.out.l).hl, (HH.out.below HE.out.l).hp⟩
  unfold st5 at HSO
  clear d0 d1 d2 d3 d4 y0 y1 y2 y3 y4 g0 g1 g2 g3 g4
  go_wp2_with fail
  generalize World.drew (World.setCell (World.setCell (World.setCell (World.setCell (World.setCell Y _ _) _ _) _ _) _ _) _ _) = z at *
  have q0 := HE.out.b3.c0
  have q1 := HE.out.b3.c1
  have q2 := HE.out.b3.c2
  have q3 := HE.out.b3.c3
  have q4 := HE.out.b3.c4
  exact bodyPost_ret (v := .tuple #[.slice A1 n1 c1, .agg #[.slice A2 n c2, .int .i64 co, .slice Al nl cl, .slice Ap np cp, .bool true], .int .i64 0]) (by simp [results, Tryz.results113, go_sem, q0, q1, q2, q3, q4]) rfl ⟨_, _, _, _, _, _, _, _, _, _, _, _, by rw [HT.out], by rw [HT.out]; exact fun _ => HSO.out, ⟨HF1.out, HF2F.out, .inl ⟨rfl, rfl⟩, .inl ⟨rfl, rfl⟩⟩, HE.out.l⟩
 rw [hov] at g4 HBY
 have HTO : Hid (O.ov = false) := hov
 clear hov
 go_upto_region 4 with (fail)
 clear g4
 have k0 := HBY.out.b0.c0
 have k1 := HBY.out.b0.c1
 have g0 := HBY.out.b1.c0
 have g1 := HBY.out.b1.c1
 have g2 := HBY.out.b1.c2
 have g3 := HBY.out.b1.c3
 have g4 := HBY.out.b1.c4
 have s0 := HBY.out.b2.c0
 have s1 := HBY.out.b2.c1
 have s2 := HBY.out.b2.c2
 have s3 := HBY.out.b2.c3
 have s4 := HBY.out.b2.c4
 have HLK := iD (wG An Ad Al Ap nn cn nd cd nl cl np cp ns ds ls co 3 d no p q Y (HH.out.below HBY.out.l).la (HH.out.below HBY.out.l).hn (HH.out.below HBY.out.l).hd (HH.out.below HBY.out.l).hl (HH.out.below HBY.out.l).sn (HH.out.below HBY.out.l).sd (by decide) HOK.out.l)
 go_wp2_with fail
 clear k0 k1 g0 g1 g2 g3 g4 s0 s1 s2 s3 s4
 refine HLK.out.mono ?_
 rintro e w2 ⟨A, mA, cA, rfl, hS, hW, hb⟩
 have HB2 := iD (HBY.out.later hb.out)
 have HS12 := iD ((HS1Y.out.below hb.out lR).more hb.out.size)
 have HS22 : Hid ((∀ b off, A2 = some ⟨b, off, none⟩ → w.heap.size + 4 ≤ b) → Sl w2 w2.heap.size 1 A2 n c2 (zD O.t.s)) := fun hf => ((HS2Y.out hf).below hb.out lR).more hb.out.size
 clear HS1Y HS2Y
 have HS2 := iD hS.out
 have HWZ : Hid (w.heap.size + 4 ≤ Y.heap.size) := HBY.out.b3.lt
 have HWN : Hid (Sl w w.heap.size 3 A mA cA ((zX ns ds ls ⟨3, d, no, p, q⟩).1.flatMap Lk.cells) ∨ ∀ b off, A = some ⟨b, off, none⟩ → w.heap.size + 4 ≤ b) := by
  rcases hW.out with ⟨rfl, rfl, rfl, e⟩ | h
  ·left; rw [e]; exact HH.out.hl
  ·right; intro b off e; have := h b off e; have := HWZ.out; omega
 have HWF : Hid (Fre w.heap.size Al A nl mA) := by
  rcases hW.out with ⟨h, h2, -⟩ | h
  ·exact .inl ⟨h, h2⟩
  ·exact .inr fun b off e => by have := h b off e; have := HWZ.out; omega
 clear hS hW hb HLK
 obtain ⟨L, hL⟩ : ∃ L, L = (zX ns ds ls ⟨3, d, no, p, q⟩).1 := ⟨_, rfl⟩
 rw [← hL] at HS2 HWN
 have HLL := iD hL
 clear hL
 go_upto_region 5 with (fail)
 have HBV := iD (HB2.out.later ((Below.refl _ w2).alloc lR (.cells #[.int .i64 co, .slice A mA cA, .slice Ap np cp] 37)))
 have HG2 := iD (Blk.new w2 37 #[.int .i64 co, .slice A mA cA, .slice Ap np cp])
 have HSV : Hid (Sl (w2.alloc (.cells #[.int .i64 co, .slice A mA cA, .slice Ap np cp] 37)) (w2.alloc (.cells #[.int .i64 co, .slice A mA cA, .slice Ap np cp] 37)).heap.size 3 A mA cA (L.flatMap Lk.cells)) := (HS2.out.alloc lR _).more (by simp)
 have HS1V : Hid (Sl (w2.alloc (.cells #[.int .i64 co, .slice A mA cA, .slice Ap np cp] 37)) (w2.alloc (.cells #[.int .i64 co, .slice A mA cA, .slice Ap np cp] 37)).heap.size 1 A1 n1 c1 (zD O.h)) := (HS12.out.alloc lR _).more (by simp)
 have HS2V : Hid ((∀ b off, A2 = some ⟨b, off, none⟩ → w.heap.size + 4 ≤ b) → Sl (w2.alloc (.cells #[.int .i64 co, .slice A mA cA, .slice Ap np cp] 37)) (w2.alloc (.cells #[.int .i64 co, .slice A mA cA, .slice Ap np cp] 37)).heap.size 1 A2 n c2 (zD O.t.s)) := fun hf => ((HS22.out hf).alloc lR _).more (by simp)
 clear HS2 HB2 HS12 HS22
 generalize World.alloc w2 _ = V at *
 obtain ⟨gb, hgb⟩ : ∃ x, x = w2.heap.size := ⟨_, rfl⟩
 rw [← hgb] at HG2 ⊢
 clear hgb
 rcases hb2 : (zX ns ds ls ⟨3, d, no, p, q⟩).2 with _ | _; rotate_left
 ·have HT : Hid (zu ns ds co ⟨m, ls, pr⟩ ⟨3, d, no, p, q⟩ = ⟨0, O.h, ⟨O.t.s, L, pr⟩, false⟩) := by unfold Hid; rw [HT0.out, HTO.out, hb2, HLL.out]; rfl
  clear hb2
  go_upto_region 7 with (fail)
  have e0 := HG2.out.cell 0; have e1 := HG2.out.cell 1; have e2 := HG2.out.cell 2
  have g1 := HBV.out.b1.cell 1; have g2 := HBV.out.b1.cell 2; have g3 := HBV.out.b1.cell 3
  have f1 := HBV.out.b1.frozen 1; have f2 := HBV.out.b1.frozen 2; have f3 := HBV.out.b1.frozen 3
  go_upto_region 8 with (fail)
  clear g1 g2 g3 f1 f2 f3
  have HBX : Hid (Bxs w [(30, #[.slice An nn cn, .slice Ad nd cd]), (96, #[.slice A2 n c2, .int .i64 co, .slice A mA cA, .slice Ap np cp, .bool false]), (43, #[.int .i64 3, .int .i64 d, .int .i64 no, .int .i64 p, .int .i64 q]), (96, #[.slice none 0 0, .int .i64 0, .slice none 0 0, .slice none 0 0, .bool false])] (((V.setCell ⟨w.heap.size + 1, 1, none⟩ (.int .i64 co)).setCell ⟨w.heap.size + 1, 2, none⟩ (.slice A mA cA)).setCell ⟨w.heap.size + 1, 3, none⟩ (.slice Ap np cp))) := ((HBV.out.set 1 1 (.int .i64 co) rfl).set 1 2 (.slice A mA cA) rfl).set 1 3 (.slice Ap np cp) rfl
  have HSX : Hid (∀ {z0 n0 c0 : Nat} {A0 : Option Addr} {x0 : List Value}, Sl V V.heap.size z0 A0 n0 c0 x0 → (∀ b off, A0 = some ⟨b, off, none⟩ → w.heap.size + 4 ≤ b) → Sl (((V.setCell ⟨w.heap.size + 1, 1, none⟩ (.int .i64 co)).setCell ⟨w.heap.size + 1, 2, none⟩ (.slice A mA cA)).setCell ⟨w.heap.size + 1, 3, none⟩ (.slice Ap np cp)) (((V.setCell ⟨w.heap.size + 1, 1, none⟩ (.int .i64 co)).setCell ⟨w.heap.size + 1, 2, none⟩ (.slice A mA cA)).setCell ⟨w.heap.size + 1, 3, none⟩ (.slice Ap np cp)).heap.size z0 A0 n0 c0 x0) := fun h hf => ((((h.ne (i := 1) (fun b off e => by have := hf b off e; omega)).ne (i := 2) (fun b off e => by have := hf b off e; omega)).ne (i := 3) (fun b off e => by have := hf b off e; omega))).more (by simp [World.setCell])
  clear e0 e1 e2
  have HSL := iD (HSX.out HSV.out)
  have HS1X := iD (HSX.out HS1V.out HG1.out)
  have HS2X : Hid ((∀ b off, A2 = some ⟨b, off, none⟩ → w.heap.size + 4 ≤ b) → Sl (((V.setCell ⟨w.heap.size + 1, 1, none⟩ (.int .i64 co)).setCell ⟨w.heap.size + 1, 2, none⟩ (.slice A mA cA)).setCell ⟨w.heap.size + 1, 3, none⟩ (.slice Ap np cp)) (((V.setCell ⟨w.heap.size + 1, 1, none⟩ (.int .i64 co)).setCell ⟨w.heap.size + 1, 2, none⟩ (.slice A mA cA)).setCell ⟨w.heap.size + 1, 3, none⟩ (.slice Ap np cp)).heap.size 1 A2 n c2 (zD O.t.s)) := fun hf => HSX.out (HS2V.out hf) hf
  clear HBV HG2 HSV HSX HS1V HS2V
  generalize World.setCell (World.setCell (World.setCell V _ _) _ _) _ _ = X at *
  have g0 := HBX.out.b1.c0
  have g1 := HBX.out.b1.c1
  have g2 := HBX.out.b1.c2
  have g3 := HBX.out.b1.c3
  have g4 := HBX.out.b1.c4
  have d0 := HBX.out.b3.cell 0; have y0 := HBX.out.b3.frozen 0
  have d1 := HBX.out.b3.cell 1; have y1 := HBX.out.b3.frozen 1
  have d2 := HBX.out.b3.cell 2; have y2 := HBX.out.b3.frozen 2
  have d3 := HBX.out.b3.cell 3; have y3 := HBX.out.b3.frozen 3
  have d4 := HBX.out.b3.cell 4; have y4 := HBX.out.b3.frozen 4
  refine zC (S := fun W' => W'.cell? ⟨w.heap.size + 1, 0, none⟩ = some (.slice A2 n c2) ∧ W'.cell? ⟨w.heap.size + 1, 1, none⟩ = some (.int .i64 co) ∧ W'.cell? ⟨w.heap.size + 1, 2, none⟩ = some (.slice A mA cA) ∧ W'.cell? ⟨w.heap.size + 1, 3, none⟩ = some (.slice Ap np cp) ∧ W'.cell? ⟨w.heap.size + 1, 4, none⟩ = some (.bool false)) (J := [5]) (by kernel_rfl) ?_ (fun AA => ?_)
  ·exact ⟨g0, g1, g2, g3, g4⟩
  try dsimp only at AA
  refine tk 0 41 (mf 6 1) AA ?_
  refine tk 1 42 (mf 6 2) AA ?_
  refine tk 2 43 (mf 6 3) AA ?_
  refine tk 3 6 (mf 6 4) AA ?_
  have HE := iD (HBX.out.st5 (.slice A2 n c2) (.int .i64 co) (.slice A mA cA) (.slice Ap np cp) (.bool false)).drew; unfold st5 at HE
  refine tb 4 (mf 6 5) fun K hK => ?_
  go_simp
  refine hK.out _ _ (fun _ => ?_) (fun AA' => ?_)
  ·exact ⟨(HE.out.b1.cell 0), (HE.out.b1.cell 1), (HE.out.b1.cell 2), (HE.out.b1.cell 3), (HE.out.b1.cell 4)⟩
  replace AA := AA' rfl
  clear AA' hK K
  try dsimp only at AA
  refine tb 5 (mf 6 6) fun K hK => ?_
  go_simp
  refine hK.out _ _ (fun h => by cases h) (fun _ => ?_)
  try clear AA
  clear hK K
  refine zA (by kernel_rfl) ?_ _
  have HSO : Hid (yZ ((st5 X (w.heap.size + 3) (.slice A2 n c2) (.int .i64 co) (.slice A mA cA) (.slice Ap np cp) (.bool false))).drew A1 A2 A Ap n1 c1 n c2 mA cA np cp ⟨O.h, ⟨O.t.s, L, pr⟩, true⟩) := ⟨tY HS1X.out (fun b off e => by have := HG1.out b off e; omega), vZ HF2.out HE.out.l (fun hf => tY (HS2X.out hf) (fun b off e => by have := hf b off e; omega)), vZ HWN.out HE.out.l (fun hf => tY (HSL.out hf) (fun b off e => by have := hf b off e; omega)), (HH.out.below HE.out.l).hp⟩
  unfold st5 at HSO
  clear d0 d1 d2 d3 d4 y0 y1 y2 y3 y4 g0 g1 g2 g3 g4
  go_wp2_with fail
  generalize World.drew (World.setCell (World.setCell (World.setCell (World.setCell (World.setCell X _ _) _ _) _ _) _ _) _ _) = z at *
  have q0 := HE.out.b3.c0
  have q1 := HE.out.b3.c1
  have q2 := HE.out.b3.c2
  have q3 := HE.out.b3.c3
  have q4 := HE.out.b3.c4
  exact bodyPost_ret (v := .tuple #[.slice A1 n1 c1, .agg #[.slice A2 n c2, .int .i64 co, .slice A mA cA, .slice Ap np cp, .bool false], .int .i64 0]) (by simp [results, Tryz.results113, go_sem, q0, q1, q2, q3, q4]) rfl ⟨_, _, _, _, _, _, _, _, _, _, _, _, by rw [HT.out], by rw [HT.out]; exact fun _ => HSO.out, ⟨HF1.out, HF2F.out, HWF.out, .inl ⟨rfl, rfl⟩⟩, HE.out.l⟩
 have HT : Hid (zu ns ds co ⟨m, ls, pr⟩ ⟨3, d, no, p, q⟩ = ⟨0, 4 :: O.h, ⟨O.t.s, L, pr⟩, false⟩) := by unfold Hid; rw [HT0.out, HTO.out, hb2, HLL.out, qM ns ds hb2]; rfl
 clear hb2
 go_upto_region 6 with (fail)
 have hn1 : n1 ≤ 1 := by have := HOH.out; have := HN1.out; omega
 go_upto_region 7 with (at_builtin; go_must (refine zR rfl (.tmp 36) (.tmp 37) rfl xF (by rfl) (ue (w := V) (xs := zD [4]) lR (by decide) (by decide)) (by rfl) ((HS1V.out.alloc lR _)) (vS _) (by omega) (by omega) (by simp) ?_; intro A5 c5 V2 hown5 hgr5 hat5))
 have HBA : Hid (Below V.heap.size V V2) := ((Below.refl V.heap.size V).alloc lR _).trans (zz (g := V.heap.size) hgr5 lR (by simp))
 have HVZ : Hid (w.heap.size + 4 ≤ V.heap.size) := HBV.out.b3.lt
 have HS5 : Hid (Sl V2 V2.heap.size 1 A5 (1 + n1) c5 (zD (4 :: O.h))) := Sl.of_own hown5
 have HG5 : Hid (∀ b off, A5 = some ⟨b, off, none⟩ → w.heap.size + 4 ≤ b) := fun b off e => by have := vP hown5 b off e; have := HVZ.out; omega
 replace HBV := iD (HBV.out.later HBA.out)
 replace HG2 := iD (HG2.out.below HBA.out HG2.out.lt)
 replace HSV := iD ((HSV.out.below HBA.out lR).more HBA.out.size)
 replace HS2V : Hid ((∀ b off, A2 = some ⟨b, off, none⟩ → w.heap.size + 4 ≤ b) → Sl V2 V2.heap.size 1 A2 n c2 (zD O.t.s)) := fun hf => ((HS2V.out hf).below HBA.out lR).more HBA.out.size
 clear hown5 hgr5 hat5 HBA HS1V
 have e0 := HG2.out.cell 0; have e1 := HG2.out.cell 1; have e2 := HG2.out.cell 2
 have g1 := HBV.out.b1.cell 1; have g2 := HBV.out.b1.cell 2; have g3 := HBV.out.b1.cell 3
 have f1 := HBV.out.b1.frozen 1; have f2 := HBV.out.b1.frozen 2; have f3 := HBV.out.b1.frozen 3
 go_upto_region 8 with (fail)
 clear g1 g2 g3 f1 f2 f3
 have HBX : Hid (Bxs w [(30, #[.slice An nn cn, .slice Ad nd cd]), (96, #[.slice A2 n c2, .int .i64 co, .slice A mA cA, .slice Ap np cp, .bool false]), (43, #[.int .i64 3, .int .i64 d, .int .i64 no, .int .i64 p, .int .i64 q]), (96, #[.slice none 0 0, .int .i64 0, .slice none 0 0, .slice none 0 0, .bool false])] (((V2.setCell ⟨w.heap.size + 1, 1, none⟩ (.int .i64 co)).setCell ⟨w.heap.size + 1, 2, none⟩ (.slice A mA cA)).setCell ⟨w.heap.size + 1, 3, none⟩ (.slice Ap np cp))) := ((HBV.out.set 1 1 (.int .i64 co) rfl).set 1 2 (.slice A mA cA) rfl).set 1 3 (.slice Ap np cp) rfl
 have HSX : Hid (∀ {z0 n0 c0 : Nat} {A0 : Option Addr} {x0 : List Value}, Sl V2 V2.heap.size z0 A0 n0 c0 x0 → (∀ b off, A0 = some ⟨b, off, none⟩ → w.heap.size + 4 ≤ b) → Sl (((V2.setCell ⟨w.heap.size + 1, 1, none⟩ (.int .i64 co)).setCell ⟨w.heap.size + 1, 2, none⟩ (.slice A mA cA)).setCell ⟨w.heap.size + 1, 3, none⟩ (.slice Ap np cp)) (((V2.setCell ⟨w.heap.size + 1, 1, none⟩ (.int .i64 co)).setCell ⟨w.heap.size + 1, 2, none⟩ (.slice A mA cA)).setCell ⟨w.heap.size + 1, 3, none⟩ (.slice Ap np cp)).heap.size z0 A0 n0 c0 x0) := fun h hf => ((((h.ne (i := 1) (fun b off e => by have := hf b off e; omega)).ne (i := 2) (fun b off e => by have := hf b off e; omega)).ne (i := 3) (fun b off e => by have := hf b off e; omega))).more (by simp [World.setCell])
 clear e0 e1 e2
 have HSL := iD (HSX.out HSV.out)
 have HS5X := iD (HSX.out HS5.out HG5.out)
 have HS2X : Hid ((∀ b off, A2 = some ⟨b, off, none⟩ → w.heap.size + 4 ≤ b) → Sl (((V2.setCell ⟨w.heap.size + 1, 1, none⟩ (.int .i64 co)).setCell ⟨w.heap.size + 1, 2, none⟩ (.slice A mA cA)).setCell ⟨w.heap.size + 1, 3, none⟩ (.slice Ap np cp)) (((V2.setCell ⟨w.heap.size + 1, 1, none⟩ (.int .i64 co)).setCell ⟨w.heap.size + 1, 2, none⟩ (.slice A mA cA)).setCell ⟨w.heap.size + 1, 3, none⟩ (.slice Ap np cp)).heap.size 1 A2 n c2 (zD O.t.s)) := fun hf => HSX.out (HS2V.out hf) hf
 clear HBV HG2 HSV HSX HS5 HS2V
 generalize World.setCell (World.setCell (World.setCell V2 _ _) _ _) _ _ = X at *
 have g0 := HBX.out.b1.c0
 have g1 := HBX.out.b1.c1
 have g2 := HBX.out.b1.c2
 have g3 := HBX.out.b1.c3
 have g4 := HBX.out.b1.c4
 have d0 := HBX.out.b3.cell 0; have y0 := HBX.out.b3.frozen 0
 have d1 := HBX.out.b3.cell 1; have y1 := HBX.out.b3.frozen 1
 have d2 := HBX.out.b3.cell 2; have y2 := HBX.out.b3.frozen 2
 have d3 := HBX.out.b3.cell 3; have y3 := HBX.out.b3.frozen 3
 have d4 := HBX.out.b3.cell 4; have y4 := HBX.out.b3.frozen 4
 refine zC (S := fun W' => W'.cell? ⟨w.heap.size + 1, 0, none⟩ = some (.slice A2 n c2) ∧ W'.cell? ⟨w.heap.size + 1, 1, none⟩ = some (.int .i64 co) ∧ W'.cell? ⟨w.heap.size + 1, 2, none⟩ = some (.slice A mA cA) ∧ W'.cell? ⟨w.heap.size + 1, 3, none⟩ = some (.slice Ap np cp) ∧ W'.cell? ⟨w.heap.size + 1, 4, none⟩ = some (.bool false)) (J := [5]) (by kernel_rfl) ?_ (fun AA => ?_)
 ·exact ⟨g0, g1, g2, g3, g4⟩
 try dsimp only at AA
 refine tk 0 41 (mf 6 1) AA ?_
 refine tk 1 42 (mf 6 2) AA ?_
 refine tk 2 43 (mf 6 3) AA ?_
 refine tk 3 6 (mf 6 4) AA ?_
 have HE := iD (HBX.out.st5 (.slice A2 n c2) (.int .i64 co) (.slice A mA cA) (.slice Ap np cp) (.bool false)).drew; unfold st5 at HE
 refine tb 4 (mf 6 5) fun K hK => ?_
 go_simp
 refine hK.out _ _ (fun _ => ?_) (fun AA' => ?_)
 ·exact ⟨(HE.out.b1.cell 0), (HE.out.b1.cell 1), (HE.out.b1.cell 2), (HE.out.b1.cell 3), (HE.out.b1.cell 4)⟩
 replace AA := AA' rfl
 clear AA' hK K
 try dsimp only at AA
 refine tb 5 (mf 6 6) fun K hK => ?_
 go_simp
 refine hK.out _ _ (fun h => by cases h) (fun _ => ?_)
 try clear AA
 clear hK K
 refine zA (by kernel_rfl) ?_ _
 have HSO : Hid (yZ ((st5 X (w.heap.size + 3) (.slice A2 n c2) (.int .i64 co) (.slice A mA cA) (.slice Ap np cp) (.bool false))).drew A5 A2 A Ap (1 + n1) c5 n c2 mA cA np cp ⟨4 :: O.h, ⟨O.t.s, L, pr⟩, true⟩) := ⟨tY HS5X.out (fun b off e => by have := HG5.out b off e; omega), vZ HF2.out HE.out.l (fun hf => tY (HS2X.out hf) (fun b off e => by have := hf b off e; omega)), vZ HWN.out HE.out.l (fun hf => tY (HSL.out hf) (fun b off e => by have := hf b off e; omega)), (HH.out.below HE.out.l).hp⟩
 unfold st5 at HSO
 clear d0 d1 d2 d3 d4 y0 y1 y2 y3 y4 g0 g1 g2 g3 g4
 go_wp2_with fail
 generalize World.drew (World.setCell (World.setCell (World.setCell (World.setCell (World.setCell X _ _) _ _) _ _) _ _) _ _) = z at *
 have q0 := HE.out.b3.c0
 have q1 := HE.out.b3.c1
 have q2 := HE.out.b3.c2
 have q3 := HE.out.b3.c3
 have q4 := HE.out.b3.c4
 exact bodyPost_ret (v := .tuple #[.slice A5 (1 + n1) c5, .agg #[.slice A2 n c2, .int .i64 co, .slice A mA cA, .slice Ap np cp, .bool false], .int .i64 0]) (by simp [results, Tryz.results113, go_sem, q0, q1, q2, q3, q4]) rfl ⟨_, _, _, _, _, _, _, _, _, _, _, _, by rw [HT.out], by rw [HT.out]; exact fun _ => HSO.out, ⟨.inr (fun b off e => by have := HG5.out b off e; omega), HF2F.out, HWF.out, .inl ⟨rfl, rfl⟩⟩, HE.out.l⟩
end
end Go.Proofs.YtkkobemhbicjgaaGreatDoor
