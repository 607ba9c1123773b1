import Derived.Test.YtkkobemhbicjgaaGreatDoorB31
set_option maxRecDepth 100000
set_option maxHeartbeats 16000000
namespace Go.Proofs.YtkkobemhbicjgaaGreatDoor
open Go.RowKit Tryz
variable {w : World} {c g n size x : Nat} {A : Option Addr} {xs : List Value} {t : TypeId} {cs : Array Value} {a b d e f : Value} {p : Int}
theorem Sl.ne2 {B i : Nat} {u : Value} (h : Sl w B size A n c xs) (hx : ∀ b off, A = some ⟨b, off, none⟩ → b < B → b ≠ x) : Sl (w.setCell ⟨x, i, none⟩ u) B size A n c xs :=
 ⟨h.1, h.2.1, h.2.2.1, h.2.2.2.1, fun hn => by
  obtain ⟨b, off, rfl, hb, hc⟩ := h.2.2.2.2 hn;exact ⟨b, off, rfl, hb, fun j v hv => (World.cell?_setCell_far w ⟨x, i, none⟩ ⟨b, off + j, none⟩ u (fun e => hx b off rfl hb e.symm)).trans (hc j v hv)⟩⟩
theorem AJ.drw (h : AJ w g t cs) : AJ w.drew g t cs := h.below (Below.refl w.heap.size w).drew h.lt
def Off (w : World) (x : Nat) (A : Option Addr) : Prop := ∀ b off, A = some ⟨b, off, none⟩ → b < w.heap.size → b ≠ x
structure eu (w : World) (x : Nat) (A1 A2 Al Ap : Option Addr) : Prop where
 h : Off w x A1
 s : Off w x A2
 l : Off w x Al
 p : Off w x Ap
theorem xF.set3 {A1 A2 Al Ap : Option Addr} {n1 c1 n2 c2 nl cl np cp : Nat} {o : So} (h : xF w A1 A2 Al Ap n1 c1 n2 c2 nl cl np cp o) (hx : eu w x A1 A2 Al Ap) : xF (((w.setCell ⟨x, 0, none⟩ a).setCell ⟨x, 1, none⟩ b).setCell ⟨x, 2, none⟩ d) A1 A2 Al Ap n1 c1 n2 c2 nl cl np cp o :=
 ⟨(((h.h.ne2 hx.h).ne2 hx.h).ne2 hx.h).more (by simp [World.setCell]), (((h.s.ne2 hx.s).ne2 hx.s).ne2 hx.s).more (by simp [World.setCell]), (((h.l.ne2 hx.l).ne2 hx.l).ne2 hx.l).more (by simp [World.setCell]), (((h.p.ne2 hx.p).ne2 hx.p).ne2 hx.p).more (by simp [World.setCell])⟩
theorem xF.later {w' : World} {A1 A2 Al Ap : Option Addr} {n1 c1 n2 c2 nl cl np cp : Nat} {o : So} (h : xF w A1 A2 Al Ap n1 c1 n2 c2 nl cl np cp o) (hb : bW w w') : xF w' A1 A2 Al Ap n1 c1 n2 c2 nl cl np cp o :=
 ⟨(h.h.below hb lR).more hb.size, (h.s.below hb lR).more hb.size, (h.l.below hb lR).more hb.size, (h.p.below hb lR).more hb.size⟩
theorem zO {base : Nat} {e : TypeId} (h : w.ownsRow base e size (.slice A n c) n xs) (hx : AJ w x t cs) (ht : e ≠ t) : ∀ b off, A = some ⟨b, off, none⟩ → b ≠ x := by
 intro b off e1 e2;rcases h.2 with ⟨h0, hn⟩ | ⟨g, cap, cur, h0, hg, hh, h1, h2, h3, h4⟩
 ·injection h0 with h0; rw [e1] at h0; cases h0
 ·injection h0 with h0; rw [e1] at h0; injection h0 with h0; injection h0 with h0 _;subst h0; subst e2;unfold AJ at hx;rw [hx] at hh;injection hh with hh; injection hh with BR BA; exact ht BA.symm
structure mN (B : Nat) (A1 A2 Al Ap : Option Addr) : Prop where
 h : ∀ b off, A1 = some ⟨b, off, none⟩ → B ≤ b
 s : ∀ b off, A2 = some ⟨b, off, none⟩ → B ≤ b
 l : ∀ b off, Al = some ⟨b, off, none⟩ → B ≤ b
 p : ∀ b off, Ap = some ⟨b, off, none⟩ → B ≤ b
theorem yj {base : Nat} {e : TypeId} (h : w.ownsRow base e size (.slice A n c) n xs) : ∀ b off, A = some ⟨b, off, none⟩ → base ≤ b := by
 intro b off e1;have hl := h.lt;rcases h.2 with ⟨h0, -⟩ | ⟨g, cap, cur, h0, hg, -⟩
 ·injection h0 with h0; rw [e1] at h0; cases h0
 ·injection h0 with h0; rw [e1] at h0; injection h0 with h0; injection h0 with h0 _; subst h0; exact (hl b (by rw [e1]; rfl)).1
theorem rf (A : Option Addr) (n c B : Nat) (l : List Int) (i : Nat) (p : Int) (w : World) (hs : Sl w B 1 A n c (zE l)) (hB : B ≤ w.heap.size) (hn : n ≤ 1000000) (hi : i < n) : Calls prog 143 #[.slice A n c, .int .i64 i, .int .i64 p] w (xB w (l.set i p)) := by
 have HL := iD (hs.len (fun _ => rfl) (by decide));have HC := iD (yo A n c B l w hs hB hn);clear hs
 go_enter func143, ntmps143
 go_wp2_with fail
 refine HC.mono ?_;rintro e w1 ⟨A1, c1, rfl, hO, hb⟩;rw [HL.out] at hO ⊢;obtain ⟨g, x, rfl, Av, DD, hx, hcell, BV, hst⟩ := hO.at (i := i) hi;have BG := iD (hst p);clear hst hx;have Bq : n ≤ 9223372036854775807 := by omega
 go_wp2_with fail
 go_ret;exact yt (by rw [List.length_set, HL.out]) BG (hb.setCell Av _)
def yK (t : Sm) (d p : Int) : Co := if rA (t.s.getD d.toNat 0) p then ⟨0, [8], t, true⟩ else ⟨0, su (t.s.getD d.toNat 0) p, ⟨t.s.set d.toNat p, t.ls, t.pr⟩, false⟩
def tF (w : World) (As BP BN : Option Addr) (n Au Ao : Nat) (co : Int) (o : Co) (e : Ending) (w' : World) : Prop :=
 ∃ (A1 A2 Al Ap : Option Addr) (n1 c1 n2 c2 nl cl np cp : Nat), e = .returned (.tuple #[.slice A1 n1 c1, .agg #[.slice A2 n2 c2, .int .i64 co, .slice Al nl cl, .slice Ap np cp, .bool o.ov], .int .i64 o.e]) ∧ Hid (o.e = 0 → xF w' A1 A2 Al Ap n1 c1 n2 c2 nl cl np cp ⟨o.h, o.t, true⟩) ∧ Hid (Ji w.heap.size none A1 0 n1 ∧ Ji w.heap.size As A2 n n2 ∧ Ji w.heap.size BP Al Au nl ∧ Ji w.heap.size BN Ap Ao np) ∧ Hid (Below w.heap.size w w')
def gP (w : World) (As Al Ap : Option Addr) (n c nl cl np cp : Nat) (co : Int) (m : List Int) (o : Co) (e : Ending) (w' : World) : Prop :=
 ∃ (A1 A2 : Option Addr) (n1 c1 c2 : Nat), e = .returned (.tuple #[.slice A1 n1 c1, .agg #[.slice A2 n c2, .int .i64 co, .slice Al nl cl, .slice Ap np cp, .bool o.ov], .int .i64 0]) ∧ Hid (Sl w' w'.heap.size 1 A1 n1 c1 (zE o.h)) ∧ Hid (Sl w' w'.heap.size 1 A2 n c2 (zE o.t.s)) ∧ Hid (Ji w.heap.size none A1 0 n1) ∧ Hid (A2 = As ∧ c2 = c ∧ o.t.s = m ∨ ∀ b off, A2 = some ⟨b, off, none⟩ → w.heap.size ≤ b) ∧ Hid (Below w.heap.size w w')
theorem KG (h : BI w size A n c xs) (hx : ∀ b off, A = some ⟨b, off, none⟩ → b ≠ x) : Sl (st5 w x a b d e f) (st5 w x a b d e f).heap.size size A n c xs := by
 unfold st5;have h5 := (((((h.ne (i := 0) (u := a) hx).ne (i := 1) (u := b) hx).ne (i := 2) (u := d) hx).ne (i := 3) (u := e) hx).ne (i := 4) (u := f) hx);exact h5.more (by simp [World.setCell])
theorem fG (h : AJ w g t cs) (hg : g ≠ x) : AJ (st5 w x a b d e f) g t cs :=
 (((((h.far (p := ⟨x, 0, none⟩) hg a).far (p := ⟨x, 1, none⟩) hg b).far (p := ⟨x, 2, none⟩) hg d).far (p := ⟨x, 3, none⟩) hg e).far (p := ⟨x, 4, none⟩) hg f)
theorem sw (h : BI w size A n c xs) (hx : ∀ b off, A = some ⟨b, off, none⟩ → b ≠ x) : Sl (st5 w x a b d e f).drew (st5 w x a b d e f).drew.heap.size size A n c xs := by
 have h5 := KG (a := a) (b := b) (d := d) (e := e) (f := f) h hx
 revert h5
 generalize st5 w x a b d e f = X;exact fun h5 => h5.drew
theorem nR {m : Int} (hm : m = 1 ∨ m = 2 ∨ m = 3) (hp : p = 1 ∨ p = 2) : (bits .and .i64 m p == 0) = rA m p := by
 rcases hm with rfl | rfl | rfl <;> rcases hp with rfl | rfl <;> decide +kernel
theorem nT (An Ad As Al Ap : Option Addr) (nn cn nd cd n c nl cl np cp : Nat) (ns : List Nd) (ds : List Dv) (m : List Int) (ls : List Lk) (pr : List Int) (co k d no p q : Int) (w : World) (h : yc w An Ad As Al Ap nn cn nd cd n c nl cl np cp ns ds m ls pr) (CP : uL ns ds ⟨m, ls, pr⟩) (hx : zc ns.length ds.length ⟨k, d, no, p, q⟩ = 0) (DT : 0 ≤ co ∧ co ≤ 7) (hk : k = 3 ∨ k = 6) :
 Calls prog 116 #[.agg #[.slice An nn cn, .slice Ad nd cd], .agg #[.slice As n c, .int .i64 co, .slice Al nl cl, .slice Ap np cp, .bool false], .agg #[.int .i64 k, .int .i64 d, .int .i64 no, .int .i64 p, .int .i64 q]] w (gP w As Al Ap n c nl cl np cp co m (yK ⟨m, ls, pr⟩ d p)) := by
 obtain ⟨Da, Hl, ES⟩ := h.ln;have RL : pr.length = np := h.hp.len (fun _ => rfl) (by decide);have HH := iD h;have HB := iD (Bw.new4 w (30, #[.slice An nn cn, .slice Ad nd cd]) (96, #[.slice As n c, .int .i64 co, .slice Al nl cl, .slice Ap np cp, .bool false]) (43, #[.int .i64 k, .int .i64 d, .int .i64 no, .int .i64 p, .int .i64 q]) (96, #[.slice none 0 0, .int .i64 0, .slice none 0 0, .slice none 0 0, .bool false]));obtain ⟨Dr, CW, GX, IP, Jl⟩ := wN hx;dsimp only at Dr CW GX IP Jl;obtain ⟨GM, hsl, -⟩ := zS CP.s;have He := iD (xk.of GM);have Bv := iD CP;have Bq : nn ≤ 32 := by have := He.nl; omega
 have AB : nd ≤ 64 := by have := He.dl; omega
 dsimp only at hsl;have EX := iD DT;clear h CP hx GM DT
 go_enter func116, ntmps116
 go_upto_region 1 with (fail);dsimp only at HB;generalize World.alloc (World.alloc (World.alloc (World.alloc w _) _) _) _ = W at *;rw [show w.heap.size + 1 + 1 = w.heap.size + 2 from rfl, show w.heap.size + 2 + 1 = w.heap.size + 3 from rfl];have HM := iD (HH.below HB.l);have Gy := CW (by omega);have LG := IP hk;obtain ⟨i, rfl⟩ := Int.eq_ofNat_of_zero_le Gy.1;obtain ⟨bs, os, sv, QP, QK, MZ, hcs⟩ := HM.hs.at1 (show i < n by omega);subst QP;have II : Hid (m.getD (i : Int).toNat 0 = sv) := by unfold Hid; rw [Int.toNat_natCast]; exact yB MZ
 have BD : Hid (m[i]? = some sv) := MZ
 have Pb : Hid (sv = 1 ∨ sv = 2 ∨ sv = 3) := by
  have := lr Bv.s (i := i) (by dsimp only; omega);rw [MZ] at this; unfold Hid; simpa using this
 have Bj := iD (nR Pb LG);clear MZ QK;have Ei : i < n := by omega
 have BF := iD LG;clear LG hk Dr CW GX IP Jl;obtain ⟨g0, g1, g2, g3, g4⟩ := HB.b1.d5;obtain ⟨s0, s1, s2, s3, s4⟩ := HB.b2.d5;obtain ⟨k0, k1⟩ := HB.b0.d2;by_cases LF : sv = p
 ·have q1 : (sv == p) = true := by simpa using LF
  have HT : Hid (yK ⟨m, ls, pr⟩ i p = ⟨0, [], ⟨m, ls, pr⟩, false⟩) := by
   unfold Hid yK;dsimp only;rw [II.out, if_neg (by simp [rA, LF]), su, if_pos LF, Int.toNat_natCast, ← LF, fj BD.out]
  clear LF;go_upto_region 3 with (fail);clear q1 k0 k1 g0 g1 g2 g3 g4 s0 s1 s2 s3 s4 hcs;obtain ⟨g0, g1, g2, g3, g4⟩ := HB.b1.d5;have d0 := HB.b3.cell 0;have y0 := HB.b3.frozen 0;have d1 := HB.b3.cell 1;have y1 := HB.b3.frozen 1;have d2 := HB.b3.cell 2;have y2 := HB.b3.frozen 2;have d3 := HB.b3.cell 3;have y3 := HB.b3.frozen 3;have d4 := HB.b3.cell 4;have y4 := HB.b3.frozen 4;refine fv (fun W' => W'.cell? ⟨w.heap.size + 1, 0, none⟩ = some (.slice (some ⟨bs, os, none⟩) n c) ∧ W'.cell? ⟨w.heap.size + 1, 1, none⟩ = some (.int .i64 co) ∧ W'.cell? ⟨w.heap.size + 1, 2, none⟩ = some (.slice Al nl cl) ∧ W'.cell? ⟨w.heap.size + 1, 3, none⟩ = some (.slice Ap np cp) ∧ W'.cell? ⟨w.heap.size + 1, 4, none⟩ = some (.bool false)) [2, 3] ?_ fun AA => ?_
  ·exact ⟨g0, g1, g2, g3, g4⟩
  try dsimp only at AA
  refine tk 0 20 (mf 4 1) AA ?_;refine tk 1 6 (mf 4 2) AA ?_;refine tb 2 (mf 4 3) fun K hK => ?_
  go_simp
  refine hK _ _ (fun h => by cases h) (fun _ => ?_)
  try clear AA
  clear hK K;refine tb 3 (mf 4 4) fun K hK => ?_
  go_simp
  refine hK _ _ (fun h => by cases h) (fun _ => ?_)
  try clear AA
  clear hK K;refine tK ?_;have HE := iD (HB.st5 (.slice (some ⟨bs, os, none⟩) n c) (.int .i64 co) (.slice Al nl cl) (.slice Ap np cp) (.bool false)).drew; unfold st5 at HE;have CZ : Hid (xF ((st5 W (w.heap.size + 3) (.slice (some ⟨bs, os, none⟩) n c) (.int .i64 co) (.slice Al nl cl) (.slice Ap np cp) (.bool false))).drew none (some ⟨bs, os, none⟩) Al Ap 0 0 n c nl cl np cp ⟨[], ⟨m, ls, pr⟩, true⟩) := ⟨Sl.nil _ _ _, (HH.below HE.l).hs, (HH.below HE.l).hl, (HH.below HE.l).hp⟩;unfold st5 at CZ;clear d0 d1 d2 d3 d4 y0 y1 y2 y3 y4 g0 g1 g2 g3 g4
  go_wp2_with fail
  generalize World.drew (World.setCell (World.setCell (World.setCell (World.setCell (World.setCell W _ _) _ _) _ _) _ _) _ _) = z at *;obtain ⟨q0, q1, q2, q3, q4⟩ := HE.b3.d5;exact bodyPost_ret (v := .tuple #[.slice none 0 0, .agg #[.slice (some ⟨bs, os, none⟩) n c, .int .i64 co, .slice Al nl cl, .slice Ap np cp, .bool false], .int .i64 0]) (by simp [results, results116, go_sem, q0, q1, q2, q3, q4]) rfl ⟨_, _, _, _, _, by rw [HT.out], by rw [HT.out]; exact CZ.h, by rw [HT.out]; exact CZ.s, .inl ⟨rfl, rfl⟩, .inl ⟨rfl, rfl, by rw [HT.out]⟩, HE.l⟩
 have q1 : (sv == p) = false := by simpa using LF
 rcases Ga : rA sv p with _ | _
 ·have q2 : (bits .and .i64 sv p == 0) = false := by rw [Bj.out]; exact Ga
  have HT : Hid (yK ⟨m, ls, pr⟩ i p = ⟨0, [8], ⟨m.set i p, ls, pr⟩, false⟩) := by
   unfold Hid yK;dsimp only;rw [II.out, Ga, su, if_neg LF, Int.toNat_natCast]; rfl
  clear LF Ga;have f4 := HB.b1.frozen 4;go_upto_region 5 with (fail);clear q1 q2 k0 k1 g0 g1 g2 g3 g4 s0 s1 s2 s3 s4 hcs f4;have AQ : Hid (Bw w [(30, #[.slice An nn cn, .slice Ad nd cd]), (96, #[.slice (some ⟨bs, os, none⟩) n c, .int .i64 co, .slice Al nl cl, .slice Ap np cp, .bool false]), (43, #[.int .i64 k, .int .i64 i, .int .i64 no, .int .i64 p, .int .i64 q]), (96, #[.slice none 0 0, .int .i64 0, .slice none 0 0, .slice none 0 0, .bool false])] (W.setCell ⟨w.heap.size + 1, 4, none⟩ (.bool false))) := HB.set 1 4 (.bool false) rfl;generalize World.setCell W _ _ = V at *;obtain ⟨g0, g1, g2, g3, g4⟩ := AQ.b1.d5;obtain ⟨s0, s1, s2, s3, s4⟩ := AQ.b2.d5;have Ag := iD (rf (some ⟨bs, os, none⟩) n c V.heap.size m i p V (HH.below AQ.l).hs lR (by omega) Ei)
  go_wp2_with fail
  refine Ag.mono ?_;rintro e w1 ⟨A2, c2, rfl, hO, hb⟩;rw [List.length_set, ES] at hO ⊢;have Ai := iD (AQ.later hb);have Ay := iD hO.out;clear hO hb Ag g0 g1 g2 g3 g4 s0 s1 s2 s3 s4;have f0 := Ai.b1.frozen 0;have g0 := Ai.b1.cell 0;go_upto_region 7 with (fail);clear f0 g0;have CO : Hid (Bw w [(30, #[.slice An nn cn, .slice Ad nd cd]), (96, #[.slice A2 n c2, .int .i64 co, .slice Al nl cl, .slice Ap np cp, .bool false]), (43, #[.int .i64 k, .int .i64 i, .int .i64 no, .int .i64 p, .int .i64 q]), (96, #[.slice none 0 0, .int .i64 0, .slice none 0 0, .slice none 0 0, .bool false])] (w1.setCell ⟨w.heap.size + 1, 0, none⟩ (.slice A2 n c2))) := Ai.set 1 0 (.slice A2 n c2) rfl;have Ac : Hid (w.heap.size + 4 ≤ V.heap.size) := AQ.b3.lt
  have Ew : Hid (Sl (w1.setCell ⟨w.heap.size + 1, 0, none⟩ (.slice A2 n c2)) (w1.setCell ⟨w.heap.size + 1, 0, none⟩ (.slice A2 n c2)).heap.size 1 A2 n c2 (zE (m.set i p))) := ((Sl.of_own Ay).ne fun b off e => by have := yj Ay b off e; have := Ac.out; omega).more (by simp [World.setCell]);have UA : Hid (∀ b off, A2 = some ⟨b, off, none⟩ → w.heap.size + 4 ≤ b) := fun b off e => by have := yj Ay b off e; have := Ac.out; omega
  generalize World.setCell w1 _ _ = X at *;obtain ⟨g0, g1, g2, g3, g4⟩ := CO.b1.d5;have Gv : Hid (Below X.heap.size X (X.alloc (.cells #[.int .i64 8] 3)).drew) := ((Below.refl X.heap.size X).alloc lR (.cells #[.int .i64 8] 3)).drew;have BH := iD (CO.later Gv);have Rv : Hid (AJ (X.alloc (.cells #[.int .i64 8] 3)).drew X.heap.size 3 #[.int .i64 8]) := AJ.new X 3 #[.int .i64 8];have Gw : X.heap.size ≠ w.heap.size + 3 := by have := CO.b3.lt; omega
  refine fv (fun W' => W'.cell? ⟨w.heap.size + 1, 0, none⟩ = some (.slice A2 n c2) ∧ W'.cell? ⟨w.heap.size + 1, 1, none⟩ = some (.int .i64 co) ∧ W'.cell? ⟨w.heap.size + 1, 2, none⟩ = some (.slice Al nl cl) ∧ W'.cell? ⟨w.heap.size + 1, 3, none⟩ = some (.slice Ap np cp) ∧ W'.cell? ⟨w.heap.size + 1, 4, none⟩ = some (.bool false)) [3, 4] ?_ fun AA => ?_
  ·exact ⟨g0, g1, g2, g3, g4⟩
  try dsimp only at AA
  refine tk 1 39 (ma 5 2) AA ?_;refine tb 0 (mf 5 2) fun K hK => ?_
  go_simp
  refine hK _ _ (fun _ => ⟨BH.b1.cell 0, BH.b1.cell 1, BH.b1.cell 2, BH.b1.cell 3, BH.b1.cell 4⟩) fun p => (fun AA => ?_) (p rfl)
  clear p hK K;(try dsimp only at AA);generalize World.drew (World.alloc X _) = wa at *;have d0 := BH.b3.cell 0;have y0 := BH.b3.frozen 0;have d1 := BH.b3.cell 1;have y1 := BH.b3.frozen 1;have d2 := BH.b3.cell 2;have y2 := BH.b3.frozen 2;have d3 := BH.b3.cell 3;have y3 := BH.b3.frozen 3;have d4 := BH.b3.cell 4;have y4 := BH.b3.frozen 4;refine tk 2 6 (mf 5 3) AA ?_;refine tb 3 (mf 5 4) fun K hK => ?_
  go_simp
  refine hK _ _ (fun h => by cases h) (fun _ => ?_)
  try clear AA
  clear hK K;refine tb 4 (mf 5 5) fun K hK => ?_
  go_simp
  refine hK _ _ (fun h => by cases h) (fun _ => ?_)
  try clear AA
  clear hK K;refine tK ?_;have HE := iD (BH.st5 (.slice A2 n c2) (.int .i64 co) (.slice Al nl cl) (.slice Ap np cp) (.bool false)); unfold st5 at HE;have CZ : Hid (xF ((st5 wa (w.heap.size + 3) (.slice A2 n c2) (.int .i64 co) (.slice Al nl cl) (.slice Ap np cp) (.bool false))) (some ⟨X.heap.size, 0, none⟩) A2 Al Ap 1 1 n c2 nl cl np cp ⟨[8], ⟨m.set i p, ls, pr⟩, true⟩) := ⟨rE (fG Rv Gw), KG ((Ew.below Gv lR).more Gv.size) (fun b off e => by have := UA b off e; omega), (HH.below HE.l).hl, (HH.below HE.l).hp⟩;unfold st5 at CZ;clear d0 d1 d2 d3 d4 y0 y1 y2 y3 y4 g0 g1 g2 g3 g4
  go_wp2_with fail
  generalize World.setCell (World.setCell (World.setCell (World.setCell (World.setCell wa _ _) _ _) _ _) _ _) _ _ = z at *;obtain ⟨q0, q1, q2, q3, q4⟩ := HE.b3.d5;exact bodyPost_ret (v := .tuple #[.slice (some ⟨X.heap.size, 0, none⟩) 1 1, .agg #[.slice A2 n c2, .int .i64 co, .slice Al nl cl, .slice Ap np cp, .bool false], .int .i64 0]) (by simp [results, results116, go_sem, q0, q1, q2, q3, q4]) rfl ⟨_, _, _, _, _, by rw [HT.out], by rw [HT.out]; exact CZ.h, by rw [HT.out]; exact CZ.s, .inr (fun b off e => by injection e with e; injection e with e1 e2; rw [← e1]; exact CO.l.size), .inr (fun b off e => by have := UA b off e; omega), HE.l⟩
 ·have q2 : (bits .and .i64 sv p == 0) = true := by rw [Bj.out]; exact Ga
  have HT : Hid (yK ⟨m, ls, pr⟩ i p = ⟨0, [8], ⟨m, ls, pr⟩, true⟩) := by
   unfold Hid yK;dsimp only;rw [II.out, Ga]; rfl
  clear LF Ga;have f4 := HB.b1.frozen 4;go_upto_region 5 with (fail);clear q1 q2 k0 k1 g0 g1 g2 g3 g4 s0 s1 s2 s3 s4 hcs f4;have AQ : Hid (Bw w [(30, #[.slice An nn cn, .slice Ad nd cd]), (96, #[.slice (some ⟨bs, os, none⟩) n c, .int .i64 co, .slice Al nl cl, .slice Ap np cp, .bool true]), (43, #[.int .i64 k, .int .i64 i, .int .i64 no, .int .i64 p, .int .i64 q]), (96, #[.slice none 0 0, .int .i64 0, .slice none 0 0, .slice none 0 0, .bool false])] (W.setCell ⟨w.heap.size + 1, 4, none⟩ (.bool true))) := HB.set 1 4 (.bool true) rfl;generalize World.setCell W _ _ = V at *;have g4 := AQ.b1.c4;go_upto_region 7 with (fail);clear g4;obtain ⟨g0, g1, g2, g3, g4⟩ := AQ.b1.d5;have Gv : Hid (Below V.heap.size V (V.alloc (.cells #[.int .i64 8] 3)).drew) := ((Below.refl V.heap.size V).alloc lR (.cells #[.int .i64 8] 3)).drew;have BH := iD (AQ.later Gv)
  have Rv : Hid (AJ (V.alloc (.cells #[.int .i64 8] 3)).drew V.heap.size 3 #[.int .i64 8]) := AJ.new V 3 #[.int .i64 8];have Gw : V.heap.size ≠ w.heap.size + 3 := by have := AQ.b3.lt; omega
  refine fv (fun W' => W'.cell? ⟨w.heap.size + 1, 0, none⟩ = some (.slice (some ⟨bs, os, none⟩) n c) ∧ W'.cell? ⟨w.heap.size + 1, 1, none⟩ = some (.int .i64 co) ∧ W'.cell? ⟨w.heap.size + 1, 2, none⟩ = some (.slice Al nl cl) ∧ W'.cell? ⟨w.heap.size + 1, 3, none⟩ = some (.slice Ap np cp) ∧ W'.cell? ⟨w.heap.size + 1, 4, none⟩ = some (.bool true)) [3, 4] ?_ fun AA => ?_
  ·exact ⟨g0, g1, g2, g3, g4⟩
  try dsimp only at AA
  refine tk 1 39 (ma 5 2) AA ?_;refine tb 0 (mf 5 2) fun K hK => ?_
  go_simp
  refine hK _ _ (fun _ => ⟨BH.b1.cell 0, BH.b1.cell 1, BH.b1.cell 2, BH.b1.cell 3, BH.b1.cell 4⟩) fun p => (fun AA => ?_) (p rfl)
  clear p hK K;(try dsimp only at AA);generalize World.drew (World.alloc V _) = wa at *;have d0 := BH.b3.cell 0;have y0 := BH.b3.frozen 0;have d1 := BH.b3.cell 1;have y1 := BH.b3.frozen 1;have d2 := BH.b3.cell 2;have y2 := BH.b3.frozen 2;have d3 := BH.b3.cell 3;have y3 := BH.b3.frozen 3;have d4 := BH.b3.cell 4;have y4 := BH.b3.frozen 4;refine tk 2 6 (mf 5 3) AA ?_;refine tb 3 (mf 5 4) fun K hK => ?_
  go_simp
  refine hK _ _ (fun h => by cases h) (fun _ => ?_)
  try clear AA
  clear hK K;refine tb 4 (mf 5 5) fun K hK => ?_
  go_simp
  refine hK _ _ (fun h => by cases h) (fun _ => ?_)
  try clear AA
  clear hK K;refine tK ?_;have HE := iD (BH.st5 (.slice (some ⟨bs, os, none⟩) n c) (.int .i64 co) (.slice Al nl cl) (.slice Ap np cp) (.bool true)); unfold st5 at HE;have CZ : Hid (xF ((st5 wa (w.heap.size + 3) (.slice (some ⟨bs, os, none⟩) n c) (.int .i64 co) (.slice Al nl cl) (.slice Ap np cp) (.bool true))) (some ⟨V.heap.size, 0, none⟩) (some ⟨bs, os, none⟩) Al Ap 1 1 n c nl cl np cp ⟨[8], ⟨m, ls, pr⟩, true⟩) := ⟨rE (fG Rv Gw), (HH.below HE.l).hs, (HH.below HE.l).hl, (HH.below HE.l).hp⟩;unfold st5 at CZ;clear d0 d1 d2 d3 d4 y0 y1 y2 y3 y4 g0 g1 g2 g3 g4
  go_wp2_with fail
  generalize World.setCell (World.setCell (World.setCell (World.setCell (World.setCell wa _ _) _ _) _ _) _ _) _ _ = z at *;obtain ⟨q0, q1, q2, q3, q4⟩ := HE.b3.d5;exact bodyPost_ret (v := .tuple #[.slice (some ⟨V.heap.size, 0, none⟩) 1 1, .agg #[.slice (some ⟨bs, os, none⟩) n c, .int .i64 co, .slice Al nl cl, .slice Ap np cp, .bool true], .int .i64 0]) (by simp [results, results116, go_sem, q0, q1, q2, q3, q4]) rfl ⟨_, _, _, _, _, by rw [HT.out], by rw [HT.out]; exact CZ.h, by rw [HT.out]; exact CZ.s, .inr (fun b off e => by injection e with e; injection e with e1 e2; rw [← e1]; exact AQ.l.size), .inl ⟨rfl, rfl, by rw [HT.out]⟩, HE.l⟩
theorem jK (An Ad As Al Ap : Option Addr) (nn cn nd cd n c nl cl np cp : Nat) (ns : List Nd) (ds : List Dv) (m : List Int) (ls : List Lk) (pr : List Int) (co k d no p q : Int) (w : World) (h : yc w An Ad As Al Ap nn cn nd cd n c nl cl np cp ns ds m ls pr) (CP : uL ns ds ⟨m, ls, pr⟩) (hx : zc ns.length ds.length ⟨k, d, no, p, q⟩ = 0) (DT : 0 ≤ co ∧ co ≤ 7) (hk : k = 6) :
 Calls prog 116 #[.agg #[.slice An nn cn, .slice Ad nd cd], .agg #[.slice As n c, .int .i64 co, .slice Al nl cl, .slice Ap np cp, .bool false], .agg #[.int .i64 k, .int .i64 d, .int .i64 no, .int .i64 p, .int .i64 q]] w (tF w As Al Ap n nl np co (zn ns ds co ⟨m, ls, pr⟩ ⟨k, d, no, p, q⟩)) := by
 have HH := iD h;refine (nT An Ad As Al Ap nn cn nd cd n c nl cl np cp ns ds m ls pr co k d no p q w h CP hx DT (.inr hk)).mono ?_;rintro e w' ⟨A1, A2, n1, c1, c2, rfl, h1, h2, f1, f2, hb⟩
 have ht : zn ns ds co ⟨m, ls, pr⟩ ⟨k, d, no, p, q⟩ = yK ⟨m, ls, pr⟩ d p := by
  rw [qF (.inr hk)];unfold yK;dsimp only;split
  ·rfl
  ·first | rfl | rw [if_pos hk]
 have he : (yK ⟨m, ls, pr⟩ d p).e = 0 ∧ (yK ⟨m, ls, pr⟩ d p).t.ls = ls ∧ (yK ⟨m, ls, pr⟩ d p).t.pr = pr := by unfold yK; split <;> exact ⟨rfl, rfl, rfl⟩
 rw [ht];refine ⟨A1, A2, Al, Ap, n1, c1, n, c2, nl, cl, np, cp, by rw [he.1], fun _ => ⟨h1, h2, by dsimp only; rw [he.2.1]; exact (HH.below hb).hl, by dsimp only; rw [he.2.2]; exact (HH.below hb).hp⟩, ⟨f1, ?_, .inl ⟨rfl, rfl⟩, .inl ⟨rfl, rfl⟩⟩, hb⟩;rcases f2.out with ⟨h, -⟩ | h
 ·exact .inl ⟨h, rfl⟩
 ·exact .inr h
theorem uI {z : World} {B : Nat} (hw : BI w size A n c xs ∨ ∀ b off, A = some ⟨b, off, none⟩ → B ≤ b) (hb : bW w z) (hk : (∀ b off, A = some ⟨b, off, none⟩ → B ≤ b) → BI z size A n c xs) : BI z size A n c xs :=
 hw.elim (fun h => (h.below hb lR).more hb.size) hk
theorem mV (An Ad As Al Ap : Option Addr) (nn cn nd cd n c nl cl np cp : Nat) (ns : List Nd) (ds : List Dv) (m : List Int) (ls : List Lk) (pr : List Int) (co k d no p q : Int) (w : World) (h : yc w An Ad As Al Ap nn cn nd cd n c nl cl np cp ns ds m ls pr) (CP : uL ns ds ⟨m, ls, pr⟩) (hx : zc ns.length ds.length ⟨k, d, no, p, q⟩ = 0) (DT : 0 ≤ co ∧ co ≤ 7) (hk : k = 4) :
 Calls prog 114 #[.agg #[.slice An nn cn, .slice Ad nd cd], .agg #[.slice As n c, .int .i64 co, .slice Al nl cl, .slice Ap np cp, .bool false], .agg #[.int .i64 k, .int .i64 d, .int .i64 no, .int .i64 p, .int .i64 q]] w (tF w As Al Ap n nl np co (zn ns ds co ⟨m, ls, pr⟩ ⟨k, d, no, p, q⟩)) := by
 obtain ⟨Da, Hl, ES⟩ := h.ln;have RL : pr.length = np := h.hp.len (fun _ => rfl) (by decide);have HH := iD h;have HB := iD (Bw.new4 w (30, #[.slice An nn cn, .slice Ad nd cd]) (96, #[.slice As n c, .int .i64 co, .slice Al nl cl, .slice Ap np cp, .bool false]) (43, #[.int .i64 k, .int .i64 d, .int .i64 no, .int .i64 p, .int .i64 q]) (96, #[.slice none 0 0, .int .i64 0, .slice none 0 0, .slice none 0 0, .bool false]));obtain ⟨Dr, CW, GX, IP, Jl⟩ := wN hx;dsimp only at Dr CW GX IP Jl;obtain ⟨GM, hsl, -⟩ := zS CP.s;have He := iD (xk.of GM);have Bv := iD CP;have Bq : nn ≤ 32 := by have := He.nl; omega
 have AB : nd ≤ 64 := by have := He.dl; omega
 dsimp only at hsl;have EX := iD DT;have HK := iD hk;clear h CP hx GM DT hk
 go_enter func114, ntmps114
 go_upto_region 1 with (fail);dsimp only at HB;generalize World.alloc (World.alloc (World.alloc (World.alloc w _) _) _) _ = W at *;rw [show w.heap.size + 1 + 1 = w.heap.size + 2 from rfl, show w.heap.size + 2 + 1 = w.heap.size + 3 from rfl];have HM := iD (HH.below HB.l);have hk := HK.out;clear HK;subst hk;obtain ⟨k0, k1⟩ := HB.b0.d2;obtain ⟨g0, g1, g2, g3, g4⟩ := HB.b1.d5;obtain ⟨s0, s1, s2, s3, s4⟩ := HB.b2.d5;have SV := iD (sc An Ad Al Ap nn cn nd cd nl cl np cp ns ds ls co 4 d no p q W (HH.below HB.l).la (HH.below HB.l).hn (HH.below HB.l).hd (HH.below HB.l).hl (HH.below HB.l).sn (HH.below HB.l).sd (by decide) Bv.l)
 go_wp2_with fail
 clear k0 k1 g0 g1 g2 g3 g4 s0 s1 s2 s3 s4;refine SV.mono ?_;rintro e w2 ⟨A, mA, cA, rfl, hS, hW, hb⟩;have Ai := iD (HB.later hb);have DN := iD hS.out;have OA : Hid (w.heap.size + 4 ≤ W.heap.size) := HB.b3.lt
 have OB : Hid (Sl w w.heap.size 3 A mA cA ((yA ns ds ls ⟨4, d, no, p, q⟩).1.flatMap Lk.cells) ∨ ∀ b off, A = some ⟨b, off, none⟩ → w.heap.size + 4 ≤ b) := by
  rcases hW.out with ⟨rfl, rfl, rfl, e⟩ | h
  ·left; rw [e]; exact HH.hl
  ·right; intro b off e; have := h b off e; have := OA.out; omega
 have DV : Hid (Ji w.heap.size Al A nl mA) := by
  rcases hW.out with ⟨h, h2, -⟩ | h
  ·exact .inl ⟨h, h2⟩
  ·exact .inr fun b off e => by have := h b off e; have := OA.out; omega
 clear hS hW hb SV;obtain ⟨L, hL⟩ := eX ((yA ns ds ls ⟨4, d, no, p, q⟩).1);rw [← hL] at DN OB;have Kw := iD hL;clear hL;go_upto_region 2 with (fail);have BS := iD (Ai.later ((Below.refl _ w2).alloc lR (.cells #[.int .i64 co, .slice A mA cA, .slice Ap np cp] 37)));have Hz := iD (AJ.new w2 37 #[.int .i64 co, .slice A mA cA, .slice Ap np cp]);have II : Hid (Sl (w2.alloc (.cells #[.int .i64 co, .slice A mA cA, .slice Ap np cp] 37)) (w2.alloc (.cells #[.int .i64 co, .slice A mA cA, .slice Ap np cp] 37)).heap.size 3 A mA cA (L.flatMap Lk.cells)) := (DN.alloc lR _).more (by simp);clear DN Ai;generalize World.alloc w2 _ = V at *;obtain ⟨gb, IW⟩ := eX w2.heap.size;rw [← IW] at Hz ⊢;clear IW;obtain ⟨e0, e1, e2⟩ := Hz.d3;have g1 := BS.b1.cell 1;have g2 := BS.b1.cell 2;have g3 := BS.b1.cell 3;have f1 := BS.b1.frozen 1;have f2 := BS.b1.frozen 2;have f3 := BS.b1.frozen 3;go_upto_region 3 with (fail)
 clear g1 g2 g3 f1 f2 f3;have Ah : Hid (Bw w [(30, #[.slice An nn cn, .slice Ad nd cd]), (96, #[.slice As n c, .int .i64 co, .slice A mA cA, .slice Ap np cp, .bool false]), (43, #[.int .i64 4, .int .i64 d, .int .i64 no, .int .i64 p, .int .i64 q]), (96, #[.slice none 0 0, .int .i64 0, .slice none 0 0, .slice none 0 0, .bool false])] (((V.setCell ⟨w.heap.size + 1, 1, none⟩ (.int .i64 co)).setCell ⟨w.heap.size + 1, 2, none⟩ (.slice A mA cA)).setCell ⟨w.heap.size + 1, 3, none⟩ (.slice Ap np cp))) := ((BS.set 1 1 (.int .i64 co) rfl).set 1 2 (.slice A mA cA) rfl).set 1 3 (.slice Ap np cp) rfl
 have CX : Hid (∀ {z0 n0 c0 : Nat} {A0 : Option Addr} {x0 : List Value}, Sl V V.heap.size z0 A0 n0 c0 x0 → (∀ b off, A0 = some ⟨b, off, none⟩ → w.heap.size + 4 ≤ b) → Sl (((V.setCell ⟨w.heap.size + 1, 1, none⟩ (.int .i64 co)).setCell ⟨w.heap.size + 1, 2, none⟩ (.slice A mA cA)).setCell ⟨w.heap.size + 1, 3, none⟩ (.slice Ap np cp)) (((V.setCell ⟨w.heap.size + 1, 1, none⟩ (.int .i64 co)).setCell ⟨w.heap.size + 1, 2, none⟩ (.slice A mA cA)).setCell ⟨w.heap.size + 1, 3, none⟩ (.slice Ap np cp)).heap.size z0 A0 n0 c0 x0) := fun h hf => ((((h.ne (i := 1) (fun b off e => by have := hf b off e; omega)).ne (i := 2) (fun b off e => by have := hf b off e; omega)).ne (i := 3) (fun b off e => by have := hf b off e; omega))).more (by simp [World.setCell])
 clear e0 e1 e2;have Hr := iD (CX II);clear BS Hz II CX;generalize World.setCell (World.setCell (World.setCell V _ _) _ _) _ _ = X at *;rcases AZ : (yA ns ds ls ⟨4, d, no, p, q⟩).2 with _ | _
 ·have HT : Hid (zn ns ds co ⟨m, ls, pr⟩ ⟨4, d, no, p, q⟩ = ⟨0, [4], ⟨m, ls, pr⟩, false⟩) := by
   unfold Hid; rw [fd rfl]; dsimp only; rw [AZ]; rfl
  have FU : Hid (L = ls) := Kw.trans (ie ns ds AZ);clear AZ;go_upto_region 4 with (fail);rw [FU.out] at Hr OB;obtain ⟨g0, g1, g2, g3, g4⟩ := Ah.b1.d5;have Gv : Hid (Below X.heap.size X (X.alloc (.cells #[.int .i64 4] 3)).drew) := ((Below.refl X.heap.size X).alloc lR (.cells #[.int .i64 4] 3)).drew;have BH := iD (Ah.later Gv);have Rv : Hid (AJ (X.alloc (.cells #[.int .i64 4] 3)).drew X.heap.size 3 #[.int .i64 4]) := AJ.new X 3 #[.int .i64 4];have Gw : X.heap.size ≠ w.heap.size + 3 := by have := Ah.b3.lt; omega
  refine fv (fun W' => W'.cell? ⟨w.heap.size + 1, 0, none⟩ = some (.slice As n c) ∧ W'.cell? ⟨w.heap.size + 1, 1, none⟩ = some (.int .i64 co) ∧ W'.cell? ⟨w.heap.size + 1, 2, none⟩ = some (.slice A mA cA) ∧ W'.cell? ⟨w.heap.size + 1, 3, none⟩ = some (.slice Ap np cp) ∧ W'.cell? ⟨w.heap.size + 1, 4, none⟩ = some (.bool false)) [3, 4] ?_ fun AA => ?_
  ·exact ⟨g0, g1, g2, g3, g4⟩
  try dsimp only at AA
  refine tk 1 24 (ma 5 2) AA ?_;refine tb 0 (mf 5 2) fun K hK => ?_
  go_simp
  refine hK _ _ (fun _ => ⟨BH.b1.cell 0, BH.b1.cell 1, BH.b1.cell 2, BH.b1.cell 3, BH.b1.cell 4⟩) fun p => (fun AA => ?_) (p rfl)
  clear p hK K;(try dsimp only at AA);generalize World.drew (World.alloc X _) = wa at *;have d0 := BH.b3.cell 0;have y0 := BH.b3.frozen 0;have d1 := BH.b3.cell 1;have y1 := BH.b3.frozen 1;have d2 := BH.b3.cell 2;have y2 := BH.b3.frozen 2;have d3 := BH.b3.cell 3;have y3 := BH.b3.frozen 3;have d4 := BH.b3.cell 4;have y4 := BH.b3.frozen 4;refine tk 2 6 (mf 5 3) AA ?_;refine tb 3 (mf 5 4) fun K hK => ?_
  go_simp
  refine hK _ _ (fun h => by cases h) (fun _ => ?_)
  try clear AA
  clear hK K;refine tb 4 (mf 5 5) fun K hK => ?_
  go_simp
  refine hK _ _ (fun h => by cases h) (fun _ => ?_)
  try clear AA
  clear hK K;refine tK ?_;have HE := iD (BH.st5 (.slice As n c) (.int .i64 co) (.slice A mA cA) (.slice Ap np cp) (.bool false)); unfold st5 at HE;have CZ : Hid (xF ((st5 wa (w.heap.size + 3) (.slice As n c) (.int .i64 co) (.slice A mA cA) (.slice Ap np cp) (.bool false))) (some ⟨X.heap.size, 0, none⟩) As A Ap 1 1 n c mA cA np cp ⟨[4], ⟨m, ls, pr⟩, true⟩) := ⟨rE (fG Rv Gw), (HH.below HE.l).hs, uI OB HE.l (fun hf => KG (((Hr hf).below Gv lR).more Gv.size) (fun b off e => by have := hf b off e; omega)), (HH.below HE.l).hp⟩;unfold st5 at CZ;clear d0 d1 d2 d3 d4 y0 y1 y2 y3 y4 g0 g1 g2 g3 g4
  go_wp2_with fail
  generalize World.setCell (World.setCell (World.setCell (World.setCell (World.setCell wa _ _) _ _) _ _) _ _) _ _ = z at *;obtain ⟨q0, q1, q2, q3, q4⟩ := HE.b3.d5;exact bodyPost_ret (v := .tuple #[.slice (some ⟨X.heap.size, 0, none⟩) 1 1, .agg #[.slice As n c, .int .i64 co, .slice A mA cA, .slice Ap np cp, .bool false], .int .i64 0]) (by simp [results, results114, go_sem, q0, q1, q2, q3, q4]) rfl ⟨_, _, _, _, _, _, _, _, _, _, _, _, by rw [HT.out], by rw [HT.out]; exact fun _ => CZ, ⟨.inr (fun b off e => by injection e with e; injection e with e1 e2; rw [← e1]; exact Ah.l.size), .inl ⟨rfl, rfl⟩, DV, .inl ⟨rfl, rfl⟩⟩, HE.l⟩
 ·have HT : Hid (zn ns ds co ⟨m, ls, pr⟩ ⟨4, d, no, p, q⟩ = ⟨0, [], ⟨m, L, pr⟩, false⟩) := by
   unfold Hid; rw [fd rfl]; dsimp only; rw [AZ, Kw.out]; rfl
  clear AZ;go_upto_region 5 with (fail);obtain ⟨g0, g1, g2, g3, g4⟩ := Ah.b1.d5;have d0 := Ah.b3.cell 0;have y0 := Ah.b3.frozen 0;have d1 := Ah.b3.cell 1;have y1 := Ah.b3.frozen 1;have d2 := Ah.b3.cell 2;have y2 := Ah.b3.frozen 2;have d3 := Ah.b3.cell 3;have y3 := Ah.b3.frozen 3;have d4 := Ah.b3.cell 4;have y4 := Ah.b3.frozen 4;refine fv (fun W' => W'.cell? ⟨w.heap.size + 1, 0, none⟩ = some (.slice As n c) ∧ W'.cell? ⟨w.heap.size + 1, 1, none⟩ = some (.int .i64 co) ∧ W'.cell? ⟨w.heap.size + 1, 2, none⟩ = some (.slice A mA cA) ∧ W'.cell? ⟨w.heap.size + 1, 3, none⟩ = some (.slice Ap np cp) ∧ W'.cell? ⟨w.heap.size + 1, 4, none⟩ = some (.bool false)) [2, 3] ?_ fun AA => ?_
  ·exact ⟨g0, g1, g2, g3, g4⟩
  try dsimp only at AA
  refine tk 0 25 (mf 4 1) AA ?_;refine tk 1 6 (mf 4 2) AA ?_;refine tb 2 (mf 4 3) fun K hK => ?_
  go_simp
  refine hK _ _ (fun h => by cases h) (fun _ => ?_)
  try clear AA
  clear hK K;refine tb 3 (mf 4 4) fun K hK => ?_
  go_simp
  refine hK _ _ (fun h => by cases h) (fun _ => ?_)
  try clear AA
  clear hK K;refine tK ?_;have HE := iD (Ah.st5 (.slice As n c) (.int .i64 co) (.slice A mA cA) (.slice Ap np cp) (.bool false)).drew; unfold st5 at HE;have CZ : Hid (xF ((st5 X (w.heap.size + 3) (.slice As n c) (.int .i64 co) (.slice A mA cA) (.slice Ap np cp) (.bool false))).drew none As A Ap 0 0 n c mA cA np cp ⟨[], ⟨m, L, pr⟩, true⟩) := ⟨Sl.nil _ _ _, (HH.below HE.l).hs, uI OB HE.l (fun hf => sw (Hr hf) (fun b off e => by have := hf b off e; omega)), (HH.below HE.l).hp⟩;unfold st5 at CZ;clear d0 d1 d2 d3 d4 y0 y1 y2 y3 y4 g0 g1 g2 g3 g4
  go_wp2_with fail
  generalize World.drew (World.setCell (World.setCell (World.setCell (World.setCell (World.setCell X _ _) _ _) _ _) _ _) _ _) = z at *;obtain ⟨q0, q1, q2, q3, q4⟩ := HE.b3.d5;exact bodyPost_ret (v := .tuple #[.slice none 0 0, .agg #[.slice As n c, .int .i64 co, .slice A mA cA, .slice Ap np cp, .bool false], .int .i64 0]) (by simp [results, results114, go_sem, q0, q1, q2, q3, q4]) rfl ⟨_, _, _, _, _, _, _, _, _, _, _, _, by rw [HT.out], by rw [HT.out]; exact fun _ => CZ, ⟨.inl ⟨rfl, rfl⟩, .inl ⟨rfl, rfl⟩, DV, .inl ⟨rfl, rfl⟩⟩, HE.l⟩
theorem iy (A : Option Addr) (n c : Nat) (b : Bool) : ∃ (A' : Option Addr) (n' c' : Nat), fX A n c b = .slice A' n' c' ∧ (A' = A ∧ n' = n ∧ c' = c ∧ b = false ∨ A' = none ∧ n' = 0 ∧ c' = 0 ∧ b = true) := by
 cases b
 ·exact ⟨_, _, _, rfl, .inl ⟨rfl, rfl, rfl, rfl⟩⟩
 ·exact ⟨_, _, _, rfl, .inr ⟨rfl, rfl, rfl, rfl⟩⟩
theorem ft {w' : World} {ns : List Nd} {ds : List Dv} {m : List Int} {d co : Int} {ls : List Lk} {pr : List Int} {e : Ending} (h : oR w ns ds m d p co ls pr e w') (hs : zy ns ds m d p co = yG m) :
 ∃ (A : Option Addr) (k c : Nat), e = .returned (.tuple #[.slice A k c, .int .i64 (yG m)]) ∧ Hid (yG m = 0 → BI w' 1 A k c (zE (vk ns ds m d p co ls pr))) ∧ Hid (A = none ∧ k = 0 ∨ ∀ b off, A = some ⟨b, off, none⟩ → w.heap.size ≤ b) ∧ Hid (bW w w') := by
 obtain ⟨⟨h1, rfl⟩ | ⟨h1, A, k, c, x, out, hx, rfl, hO, hL⟩, hb⟩ := h
 ·exact ⟨none, 0, 0, by rw [hs], fun h0 => absurd (hs.trans h0) h1, .inl ⟨rfl, rfl⟩, hb⟩
 ·refine ⟨A, k, c, by rw [← hs, h1], fun _ => ?_, .inr (yj hO), hb⟩;rw [← oC hx hL.out]; exact Sl.of_own hO.out
theorem sY (An Ad As Al Ap : Option Addr) (nn cn nd cd n c nl cl np cp : Nat) (ns : List Nd) (ds : List Dv) (m : List Int) (ls : List Lk) (pr : List Int) (co k d no p q : Int) (w : World) (h : yc w An Ad As Al Ap nn cn nd cd n c nl cl np cp ns ds m ls pr) (CP : uL ns ds ⟨m, ls, pr⟩) (hx : zc ns.length ds.length ⟨k, d, no, p, q⟩ = 0) (DT : 0 ≤ co ∧ co ≤ 7) (hk : k = 1 ∨ k = 2) :
 Calls prog 112 #[.agg #[.slice An nn cn, .slice Ad nd cd], .agg #[.slice As n c, .int .i64 co, .slice Al nl cl, .slice Ap np cp, .bool false], .agg #[.int .i64 k, .int .i64 d, .int .i64 no, .int .i64 p, .int .i64 q]] w (tF w As Al Ap n nl np co (zn ns ds co ⟨m, ls, pr⟩ ⟨k, d, no, p, q⟩)) := by
 obtain ⟨Da, Hl, ES⟩ := h.ln;have RL : pr.length = np := h.hp.len (fun _ => rfl) (by decide);have HH := iD h;have HB := iD (Bw.new4 w (30, #[.slice An nn cn, .slice Ad nd cd]) (96, #[.slice As n c, .int .i64 co, .slice Al nl cl, .slice Ap np cp, .bool false]) (43, #[.int .i64 k, .int .i64 d, .int .i64 no, .int .i64 p, .int .i64 q]) (96, #[.slice none 0 0, .int .i64 0, .slice none 0 0, .slice none 0 0, .bool false]));obtain ⟨Dr, CW, GX, IP, Jl⟩ := wN hx;dsimp only at Dr CW GX IP Jl;obtain ⟨GM, hsl, -⟩ := zS CP.s;have He := iD (xk.of GM);have Bv := iD CP;have Bq : nn ≤ 32 := by have := He.nl; omega
 have AB : nd ≤ 64 := by have := He.dl; omega
 dsimp only at hsl;have EX := iD DT;clear h CP hx GM DT
 go_enter func112, ntmps112
 go_upto_region 1 with (fail);dsimp only at HB;generalize World.alloc (World.alloc (World.alloc (World.alloc w _) _) _) _ = W at *;rw [show w.heap.size + 1 + 1 = w.heap.size + 2 from rfl, show w.heap.size + 2 + 1 = w.heap.size + 3 from rfl];have HM := iD (HH.below HB.l);have Gy := CW (by omega);obtain ⟨i, rfl⟩ := Int.eq_ofNat_of_zero_le Gy.1;have hi : i < nd := by omega
 have Hd : Hid (zy ns ds m i k co = yG m) := by
  have := EX.out;unfold Hid zy yS;rw [if_pos Bv.s, if_pos] <;> rw [if_neg (by omega), if_neg (by omega), if_neg (by omega), if_neg (by omega), if_neg (by omega)]
 have HK := iD hk;clear Dr CW GX IP Jl;obtain ⟨s0, s1, s2, s3, s4⟩ := HB.b2.d5
 go_wp2_with fail
 clear s0 s1 s2 s3 s4;refine (qV k i no p q W hk).mono ?_;rintro e w1 ⟨rfl, AV⟩;have AQ := iD (HB.later AV);clear AV HB HM hk;go_upto_region 2 with (fail);have UE := iD (AQ.later ((Below.refl _ w1).alloc lR (.cells #[.int .i64 i, .int .i64 k] 77)));have WF := iD (AJ.new w1 77 #[.int .i64 i, .int .i64 k]);have Ez : Hid (w.heap.size + 4 ≤ w1.heap.size) := AQ.b3.lt;clear AQ;generalize World.alloc w1 _ = U at *;obtain ⟨ob, hob⟩ := eX w1.heap.size;rw [← hob] at WF Ez ⊢;clear hob;have Lf := iD (fN An Ad As Al Ap nn cn nd cd n c nl cl np cp ns ds m ls pr i k co U (HH.below UE.l));obtain ⟨k0, k1⟩ := UE.b0.d2;obtain ⟨g0, g1, g2, g3, g4⟩ := UE.b1.d5;obtain ⟨o0, o1⟩ := WF.d2
 go_wp2_with fail
 clear k0 k1 g0 g1 g2 g3 g4 o0 o1;refine Lf.mono ?_;intro e w2 JQ;obtain ⟨A1, m1, c1, rfl, Tf, AG, AZ⟩ := ft JQ Hd.out;have Ai := iD (UE.later AZ);have PW := iD (WF.below AZ WF.lt);have Aa : Hid (w.heap.size + 4 ≤ U.heap.size) := UE.b3.lt;have NI : Hid (w.heap.size + 4 ≤ w2.heap.size) := Ai.b3.lt;have BO := iD Tf.out
 have AP : Hid (Ji w.heap.size none A1 0 m1) := by
  rcases AG.out with ⟨h, h2⟩ | h
  ·exact .inl ⟨h, h2⟩
  ·exact .inr fun b off e => by have := h b off e; have := Aa.out; omega
 have UB : Hid (∀ b off, A1 = some ⟨b, off, none⟩ → w.heap.size + 4 ≤ b) := by
  rcases AG.out with ⟨h, h2⟩ | h
  ·exact fun b off e => by rw [h] at e; cases e
  ·exact fun b off e => by have := h b off e; have := Aa.out; omega
 clear JQ Tf AG AZ Lf UE WF;obtain ⟨g0, g1, g2, g3, g4⟩ := Ai.b1.d5;obtain ⟨o0, o1⟩ := PW.d2
 go_wp2_with fail
 clear g0 g1 g2 g3 g4 o0 o1;refine (rf As n c w2.heap.size m i k w2 (HH.below Ai.l).hs lR (by omega) (by omega)).mono ?_;rintro e w3 ⟨A2, c2, rfl, hO, BX⟩;rw [List.length_set, ES] at hO ⊢;have CO := iD (Ai.later BX);have WE := iD (PW.below BX PW.lt);have Vt : Hid (yG m = 0 → Sl w3 w3.heap.size 1 A1 m1 c1 (zE (vk ns ds m i k co ls pr))) := fun h0 => ((BO h0).below BX lR).more BX.size
 have Vr := iD (Sl.of_own hO);have Jy : Hid (∀ b off, A2 = some ⟨b, off, none⟩ → w.heap.size + 4 ≤ b) := fun b off e => by have := yj hO b off e; have := NI.out; omega
 clear hO BX Ai PW BO;have g0 := CO.b1.cell 0;have f0 := CO.b1.frozen 0;go_upto_region 4 with (fail);clear g0 f0;have Ef : Hid (Bw w [(30, #[.slice An nn cn, .slice Ad nd cd]), (96, #[.slice A2 n c2, .int .i64 co, .slice Al nl cl, .slice Ap np cp, .bool false]), (43, #[.int .i64 k, .int .i64 i, .int .i64 no, .int .i64 p, .int .i64 q]), (96, #[.slice none 0 0, .int .i64 0, .slice none 0 0, .slice none 0 0, .bool false])] (w3.setCell ⟨w.heap.size + 1, 0, none⟩ (.slice A2 n c2))) := CO.set 1 0 (.slice A2 n c2) rfl;have Vz := iD (WE.far (p := ⟨w.heap.size + 1, 0, none⟩) (show ob ≠ w.heap.size + 1 by have := Ez.out; omega) (.slice A2 n c2))
 have KX : Hid (yG m = 0 → Sl (w3.setCell ⟨w.heap.size + 1, 0, none⟩ (.slice A2 n c2)) (w3.setCell ⟨w.heap.size + 1, 0, none⟩ (.slice A2 n c2)).heap.size 1 A1 m1 c1 (zE (vk ns ds m i k co ls pr))) := fun h0 => ((Vt h0).ne (fun b off e => by have := UB b off e; omega)).more (by simp [World.setCell])
 have KW : Hid (Sl (w3.setCell ⟨w.heap.size + 1, 0, none⟩ (.slice A2 n c2)) (w3.setCell ⟨w.heap.size + 1, 0, none⟩ (.slice A2 n c2)).heap.size 1 A2 n c2 (zE (m.set i k))) := (Vr.ne (fun b off e => by have := Jy b off e; omega)).more (by simp [World.setCell]);clear CO WE Vt Vr;generalize World.setCell w3 _ _ = Y at *;have Af := iD (py An Ad Al Ap nn cn nd cd nl cl np cp ds co i k Y (HH.below Ef.l).hd HK (by omega) (by omega));obtain ⟨k0, k1⟩ := Ef.b0.d2;obtain ⟨g0, g1, g2, g3, g4⟩ := Ef.b1.d5;obtain ⟨o0, o1⟩ := Vz.d2
 go_wp2_with fail
 clear k0 k1 g0 g1 g2 g3 g4 o0 o1;refine Af.mono ?_;rintro e V ⟨rfl, Be⟩;have BS := iD (Ef.later Be);have KY : Hid (yG m = 0 → Sl V V.heap.size 1 A1 m1 c1 (zE (vk ns ds m i k co ls pr))) := fun h0 => ((KX h0).below Be lR).more Be.size
 have Ic := iD ((KW.below Be lR).more Be.size);clear Be Af Ef Vz KX KW;obtain ⟨Aq, nq, cq, hq, AY⟩ := iy Ap np cp (tB ds k i);rw [hq];have Ak := iD AY;clear hq AY;have g1 := BS.b1.cell 1;have g2 := BS.b1.cell 2;have g3 := BS.b1.cell 3;have f1 := BS.b1.frozen 1;have f2 := BS.b1.frozen 2;have f3 := BS.b1.frozen 3;go_upto_region 5 with (fail);clear g1 g2 g3 f1 f2 f3
 have Ah : Hid (Bw w [(30, #[.slice An nn cn, .slice Ad nd cd]), (96, #[.slice A2 n c2, .int .i64 co, .slice Al nl cl, .slice Aq nq cq, .bool false]), (43, #[.int .i64 k, .int .i64 i, .int .i64 no, .int .i64 p, .int .i64 q]), (96, #[.slice none 0 0, .int .i64 0, .slice none 0 0, .slice none 0 0, .bool false])] (((V.setCell ⟨w.heap.size + 1, 1, none⟩ (.int .i64 co)).setCell ⟨w.heap.size + 1, 2, none⟩ (.slice Al nl cl)).setCell ⟨w.heap.size + 1, 3, none⟩ (.slice Aq nq cq))) := ((BS.set 1 1 (.int .i64 co) rfl).set 1 2 (.slice Al nl cl) rfl).set 1 3 (.slice Aq nq cq) rfl
 have CX : Hid (∀ {z0 n0 c0 : Nat} {A0 : Option Addr} {x0 : List Value}, Sl V V.heap.size z0 A0 n0 c0 x0 → (∀ b off, A0 = some ⟨b, off, none⟩ → w.heap.size + 4 ≤ b) → Sl (((V.setCell ⟨w.heap.size + 1, 1, none⟩ (.int .i64 co)).setCell ⟨w.heap.size + 1, 2, none⟩ (.slice Al nl cl)).setCell ⟨w.heap.size + 1, 3, none⟩ (.slice Aq nq cq)) (((V.setCell ⟨w.heap.size + 1, 1, none⟩ (.int .i64 co)).setCell ⟨w.heap.size + 1, 2, none⟩ (.slice Al nl cl)).setCell ⟨w.heap.size + 1, 3, none⟩ (.slice Aq nq cq)).heap.size z0 A0 n0 c0 x0) := fun h hf => ((((h.ne (i := 1) (fun b off e => by have := hf b off e; omega)).ne (i := 2) (fun b off e => by have := hf b off e; omega)).ne (i := 3) (fun b off e => by have := hf b off e; omega))).more (by simp [World.setCell])
 have SF : Hid (yG m = 0 → Sl (((V.setCell ⟨w.heap.size + 1, 1, none⟩ (.int .i64 co)).setCell ⟨w.heap.size + 1, 2, none⟩ (.slice Al nl cl)).setCell ⟨w.heap.size + 1, 3, none⟩ (.slice Aq nq cq)) (((V.setCell ⟨w.heap.size + 1, 1, none⟩ (.int .i64 co)).setCell ⟨w.heap.size + 1, 2, none⟩ (.slice Al nl cl)).setCell ⟨w.heap.size + 1, 3, none⟩ (.slice Aq nq cq)).heap.size 1 A1 m1 c1 (zE (vk ns ds m i k co ls pr))) := fun h0 => CX (KY h0) UB.out
 have NN := iD (CX Ic Jy);clear BS KY Ic CX;generalize World.setCell (World.setCell (World.setCell V _ _) _ _) _ _ = X at *;have HT : Hid (zn ns ds co ⟨m, ls, pr⟩ ⟨k, i, no, p, q⟩ = ⟨yG m, vk ns ds m i k co ls pr, ⟨m.set i k, ls, if tB ds k i then [] else pr⟩, false⟩) := by unfold Hid; rw [gH HK.out, Int.toNat_natCast]
 obtain ⟨g0, g1, g2, g3, g4⟩ := Ah.b1.d5;have d0 := Ah.b3.cell 0;have y0 := Ah.b3.frozen 0;have d1 := Ah.b3.cell 1;have y1 := Ah.b3.frozen 1;have d2 := Ah.b3.cell 2;have y2 := Ah.b3.frozen 2;have d3 := Ah.b3.cell 3;have y3 := Ah.b3.frozen 3;have d4 := Ah.b3.cell 4;have y4 := Ah.b3.frozen 4;refine fv (fun W' => W'.cell? ⟨w.heap.size + 1, 0, none⟩ = some (.slice A2 n c2) ∧ W'.cell? ⟨w.heap.size + 1, 1, none⟩ = some (.int .i64 co) ∧ W'.cell? ⟨w.heap.size + 1, 2, none⟩ = some (.slice Al nl cl) ∧ W'.cell? ⟨w.heap.size + 1, 3, none⟩ = some (.slice Aq nq cq) ∧ W'.cell? ⟨w.heap.size + 1, 4, none⟩ = some (.bool false)) [5] ?_ fun AA => ?_
 ·exact ⟨g0, g1, g2, g3, g4⟩
 try dsimp only at AA
 refine tk 0 38 (mf 6 1) AA ?_;refine tk 1 39 (mf 6 2) AA ?_;refine tk 2 40 (mf 6 3) AA ?_;refine tk 3 6 (mf 6 4) AA ?_;have HE := iD (Ah.st5 (.slice A2 n c2) (.int .i64 co) (.slice Al nl cl) (.slice Aq nq cq) (.bool false)).drew; unfold st5 at HE;refine tb 4 (mf 6 5) fun K hK => ?_
 go_simp
 refine hK _ _ (fun _ => ⟨(HE.b1.cell 0), (HE.b1.cell 1), (HE.b1.cell 2), (HE.b1.cell 3), (HE.b1.cell 4)⟩) fun p => (fun AA => ?_) (p rfl)
 clear p hK K;(try dsimp only at AA);refine tb 5 (mf 6 6) fun K hK => ?_
 go_simp
 refine hK _ _ (fun h => by cases h) (fun _ => ?_)
 try clear AA
 clear hK K;refine tK ?_;have CZ : Hid (yG m = 0 → xF ((st5 X (w.heap.size + 3) (.slice A2 n c2) (.int .i64 co) (.slice Al nl cl) (.slice Aq nq cq) (.bool false))).drew A1 A2 Al Aq m1 c1 n c2 nl cl nq cq ⟨vk ns ds m i k co ls pr, ⟨m.set i k, ls, if tB ds k i then [] else pr⟩, true⟩) := fun h0 => ⟨sw (SF h0) (fun b off e => by have := UB b off e; omega), sw NN (fun b off e => by have := Jy b off e; omega), (HH.below HE.l).hl, Ak.elim (fun ⟨h1, h2, h3, e⟩ => by subst h1 h2 h3; rw [e]; exact (HH.below HE.l).hp) (fun ⟨h1, h2, h3, e⟩ => by subst h1 h2 h3; rw [e]; exact Sl.nil _ _ _)⟩
 unfold st5 at CZ;clear d0 d1 d2 d3 d4 y0 y1 y2 y3 y4 g0 g1 g2 g3 g4
 go_wp2_with fail
 generalize World.drew (World.setCell (World.setCell (World.setCell (World.setCell (World.setCell X _ _) _ _) _ _) _ _) _ _) = z at *;obtain ⟨q0, q1, q2, q3, q4⟩ := HE.b3.d5;exact bodyPost_ret (v := .tuple #[.slice A1 m1 c1, .agg #[.slice A2 n c2, .int .i64 co, .slice Al nl cl, .slice Aq nq cq, .bool false], .int .i64 (yG m)]) (by simp [results, results112, go_sem, q0, q1, q2, q3, q4]) rfl ⟨_, _, _, _, _, _, _, _, _, _, _, _, by rw [HT.out], by rw [HT.out]; exact CZ, ⟨AP, .inr (fun b off e => by have := Jy b off e; omega), .inl ⟨rfl, rfl⟩, Ak.elim (fun h => .inl ⟨h.1, h.2.1⟩) (fun h => .inr (fun b off e => by rw [h.1] at e; cases e))⟩, HE.l⟩
theorem lG (A : Option Addr) (c B : Nat) (m : List Int) (w : World) (hs : Sl w B 1 A m.length c (zE m)) (hB : B ≤ w.heap.size) (hn : m.length ≤ 1000) : Calls prog 172 #[.slice A m.length c] w (xB w (xe m 1)) := by
 have HC := iD (nk A c B m 1 w hs hB hn);clear hs
 go_enter func172, ntmps172
 go_wp2_with fail
 refine HC.mono ?_;rintro e w1 ⟨A1, c1, rfl, hO, hb⟩
 go_wp2_with fail
 go_ret;exact ⟨A1, c1, rfl, hO, hb⟩
def Rq (nn : Nat) (L : Nat → Bool) (k : Nat) (cs : Array Value) : Prop := cs.size = nn * 4 ∧ ∀ v, v < k → cs[v * 4]? = some (.bool (L v))
theorem Rq.step {nn k : Nat} {L : Nat → Bool} {c : Value} (h : Rq nn L k cs) (hk : k < nn) (ha : a = .bool (L k)) : Rq nn L (k + 1) ((((cs.setIfInBounds (k * 4) a).setIfInBounds (k * 4 + 1) b).setIfInBounds (k * 4 + 2) c).setIfInBounds (k * 4 + 3) d) := by
 subst ha;refine ⟨by simp [h.1], fun v hv => ?_⟩;have h1 := h.1;rw [Array.getElem?_setIfInBounds_ne (by omega), Array.getElem?_setIfInBounds_ne (by omega), Array.getElem?_setIfInBounds_ne (by omega)];by_cases e : v = k
 ·subst e; rw [Array.getElem?_setIfInBounds_self_of_lt (by omega)]
 ·rw [Array.getElem?_setIfInBounds_ne (by omega)]; exact h.2 v (by omega)
theorem Rq.at {nn k : Nat} {L : Nat → Bool} (h : Rq nn L k cs) (hb : AJ w g t cs) {j : Nat} (hj : j < nn * 4) : ∃ u, w.cell? ⟨g, j, none⟩ = some u := by
 rw [hb.cell]; exact ⟨_, Array.getElem?_eq_getElem (by rw [h.1]; exact hj)⟩
def ShR (w : World) (_nt : Array Value) (A2 A4 : Option Addr) (nn g : Nat) (c2 c4 : List Int) (L : Nat → Bool) (gk : Nat) (iv : Value) (wr : World) : Prop :=
 ∃ (k : Nat) (cs : Array Value), iv = .int .i64 k ∧ k ≤ nn ∧ gk = nn - k ∧ Hid (AJ wr g 140 cs) ∧ Hid (Rq nn L k cs) ∧ Hid (Sl wr g 1 A2 nn nn (zE c2)) ∧ Hid (Sl wr g 1 A4 nn nn (zE c4)) ∧ Hid (Below w.heap.size w wr)
def eI (w : World) (nn : Nat) (L : Nat → Bool) (e : Ending) (w' : World) : Prop :=
 ∃ (A : Option Addr) (c : Nat), e = .returned (.tuple #[.slice A nn c, .int .i64 0]) ∧ Hid (∀ v, v < nn → ∃ b o, A = some ⟨b, o, none⟩ ∧ w'.cell? ⟨b, o + v * 4, none⟩ = some (.bool (L v))) ∧ Hid (Below w.heap.size w w')
noncomputable def Pt (nn : Nat) (ds : List Dv) (m : List Int) : Nat → Bool := fun v => JM (zW nn ds (xe m 2)) (v : Nat)
theorem kj (n : Nat) (hn : n ≤ 1000000) (w : World) : (Instr.makeSlice 136 (.int .i64 (n : Int)) (.int .i64 (n : Int))).run prog w = .ok (.slice (some ⟨w.heap.size, 0, none⟩) n n) (w.alloc (.cells (madeCells #[.bool false, .bool false, .bool false, .bool false] (n * 4)) 140)) := by
 obtain ⟨i, hi, hz, hs, hb⟩ := info_parts (P := prog) (e := 140) (z := .agg #[.bool false, .bool false, .bool false, .bool false]) (size := 4) (bytes := 4) (by kernel_rfl);have h := run_make (P := prog) w 136 140 i _ underlying136 hi hz .i64 .i64 n n (by omega) (Int.le_refl _) (by rw [hb]; omega) (by omega);simp only [Int.toNat_natCast, hs] at h;exact h
theorem ki (nn : Nat) (L : Nat → Bool) (z : Array Value) : Rq nn L 0 (madeCells z (nn * 4)) := ⟨size_madeCells _ _, fun _ h => absurd h (Nat.not_lt_zero _)⟩
theorem me (An Ad As : Option Addr) (nn cn nd cd n c : Nat) (ns : List Nd) (ds : List Dv) (m : List Int) (w : World) (IE : Laid w) (hn : BI w 3 An nn cn (ns.flatMap Nd.cells)) (hd : BI w 5 Ad nd cd (ds.flatMap Dv.cells)) (hs : BI w 1 As n c (zE m)) (Bg : FP ns) (BU : Fv ds) (hm : zU ns ds m = 0) :
 Calls prog 144 #[.agg #[.slice An nn cn, .slice Ad nd cd], .slice As n c] w (eI w nn (Pt nn ds m)) := by
 have Da : ns.length = nn := hn.len (fun _ => rfl) (by decide);have Hl : ds.length = nd := hd.len (fun _ => rfl) (by decide);have ES : m.length = n := hs.len (fun _ => rfl) (by decide);have Ax := (zS hm).2.1;have He := iD (xk.of (zS hm).1);have Bq : nn ≤ 32 := by have := He.nl; omega
 have AB : nd ≤ 64 := by have := He.dl; omega
 subst ES;have HB := iD ((Bw.nil w).add rfl 30 #[.slice An nn cn, .slice Ad nd cd]);have HD := iD hd; have HS := iD hs; have HN := iD hn; have Ej := iD Bg; have Ce := iD BU; have GV := iD IE;have BK := iD hm;have Ed : Hid (yf nn ds ∧ Im nn ds) := ⟨by rw [← Da]; exact He.e, by rw [← Da]; exact He.a⟩;have JU : nd ≤ m.length := by omega
 have BQ : m.length ≤ 64 := by omega
 clear hd hs hn Bg BU hm IE Da Hl Ax
 go_enter func144, ntmps144
 go_upto_region 1 with (fail);dsimp only [List.nil_append] at HB;generalize World.alloc w _ = W at *;have Aj := iD (uC An Ad As nn cn nd cd m.length c w.heap.size w.heap.size w.heap.size ns ds m W (GV.below HB.l lR) (HN.below HB.l lR) (HD.below HB.l lR) (HS.below HB.l lR) HB.l.size HB.l.size HB.l.size Ej Ce);obtain ⟨k0, k1⟩ := HB.b0.d2
 go_wp2_with fail
 clear k0 k1;refine Aj.mono ?_;rintro e w1 ⟨rfl, AV⟩;have AQ := iD (HB.later AV);clear AV Aj HB;rw [BK.out];go_upto_region 4 with (fail);refine fv (fun W' => Bw w [(30, #[.slice An nn cn, .slice Ad nd cd])] W') [] ?_ fun AA => ?_
 ·exact AQ.drew
 try dsimp only at AA
 refine ty 0 20 (mf 9 1) AA (y := by intro w AL; have k0 := AL.b0.cell 0; have k1 := AL.b0.cell 1; go_simp; try with_reducible rfl) (h := ?_);refine tk 1 21 (mf 9 2) AA ?_;refine tb 2 (mf 9 3) fun K hK => ?_
 (go_simp; refine (nh As c _ m w1.drew (HS.below AA.l lR) AA.l.size (by omega)).mono ?_; rintro e w2 ⟨A1, c1, rfl, hO, hb⟩; rw [wo] at hO ⊢; have DY := iD hO.out; have BZ := iD hb.out; clear hO hb; go_simp)
 refine hK _ _ (fun _ => AA.later BZ.out) fun p => (fun AA => ?_) (p rfl)
 clear p hK K;(try dsimp only at AA);refine tb 3 (mf 9 4) fun K hK => ?_
 (go_simp; refine (vX An Ad A1 nn cn nd cd m.length c1 w.heap.size w2.heap.size ds (xe m 2) w2 (HD.below AA.l lR) AA.l.size (Sl.of_own DY) lR (by omega) (by omega) (by omega) Ed.1 Ed.2).mono ?_; rintro e w3 ⟨A, A2, P, C2, rfl, Hq, Dc, hP, hC, hb⟩; have Ay := iD Dc.out; have JH := iD hC.out; have UD := iD hb.out; clear Hq Dc hP hC hb; go_simp)
 refine hK _ _ (fun _ => AA.later UD.out) fun p => (fun AA => ?_) (p rfl)
 clear p hK K;(try dsimp only at AA);refine tk 4 19 (mf 9 5) AA ?_;refine tk 5 24 (mf 9 6) AA ?_;refine tk 6 25 (mf 9 7) AA ?_;refine tk 7 7 (mf 9 8) AA ?_;refine tk 8 8 (mf 9 9) AA ?_;refine tK ?_;have CO := iD AA;clear AQ DY BZ UD AA;go_upto_region 5 with (fail);refine fv (fun W' => Bw w [(30, #[.slice An nn cn, .slice Ad nd cd])] W' ∧ zL W' w2.heap.size A2 nn nn C2) [] ?_ fun AA => ?_
 ·exact ⟨CO.drew, Ay.later (Below.refl _ _).drew⟩
 try dsimp only at AA
 refine ty 0 27 (mf 9 1) AA (y := by intro w AL; have k0 := AL.1.b0.cell 0; have k1 := AL.1.b0.cell 1; go_simp; try with_reducible rfl) (h := ?_);refine tk 1 28 (mf 9 2) AA ?_;refine tb 2 (mf 9 3) fun K hK => ?_
 (go_simp; refine (lG As c _ m w3.drew (HS.below AA.1.l lR) AA.1.l.size (by omega)).mono ?_; rintro e w4 ⟨A3, c3, rfl, hO, hb⟩; rw [wo] at hO ⊢; have Az := iD hO.out; have BZ := iD hb.out; clear hO hb; go_simp)
 refine hK _ _ (fun _ => ⟨AA.1.later BZ, AA.2.later BZ⟩) fun p => (fun AA => ?_) (p rfl)
 clear p hK K;(try dsimp only at AA);refine tb 3 (mf 9 4) fun K hK => ?_
 (go_simp; refine (vX An Ad A3 nn cn nd cd m.length c3 w.heap.size w4.heap.size ds (xe m 1) w4 (HD.below AA.1.l lR) AA.1.l.size (Sl.of_own Az) lR (by omega) (by omega) (by omega) Ed.1 Ed.2).mono ?_; rintro e w5 ⟨A, A4, P, C4, rfl, Hq, Dc, hP, hC, hb⟩; have BC := iD Dc.out; have Wl := iD hC.out; have UD := iD hb.out; clear Hq Dc hP hC hb; go_simp)
 refine hK _ _ (fun _ => ⟨AA.1.later UD, AA.2.later UD⟩) fun p => (fun AA => ?_) (p rfl)
 clear p hK K;(try dsimp only at AA);refine tk 4 26 (mf 9 5) AA ?_;refine tk 5 31 (mf 9 6) AA ?_;refine tk 6 32 (mf 9 7) AA ?_;refine tk 7 9 (mf 9 8) AA ?_;refine tk 8 10 (mf 9 9) AA ?_;refine tK ?_;have Cf := iD AA.1;have DN := iD (Sl.of_own AA.2);have Bz := iD (Sl.of_own BC);have BW : Hid (C2.length = nn) := JH.1;have SX : Hid (C4.length = nn) := Wl.1;have Lc : Hid (∀ v : Nat, v < nn → Pt nn ds m v = xP (C2.getD v 0)) := fun v _ => by unfold Pt JM; rw [xO JH.out, Int.toNat_natCast]
 clear CO Az BZ UD AA Ay BC JH Wl;have k0 := Cf.b0.cell 0;have FX : (Instr.makeSlice 136 (.int .i64 nn) (.int .i64 nn)).run prog w5 = _ := kj nn (by omega) w5;go_upto_region 8 with (fail);clear k0 FX;have Bh : Hid (Below w5.heap.size w5 (w5.alloc (.cells (madeCells #[.bool false, .bool false, .bool false, .bool false] (nn * 4)) 140))) := (Below.refl _ w5).alloc lR _;have HG := iD (AJ.new w5 140 (madeCells #[.bool false, .bool false, .bool false, .bool false] (nn * 4)));have Pi : Hid (w.heap.size ≤ w5.heap.size) := Cf.l.size;generalize World.alloc w5 _ = V at *;obtain ⟨g, hg⟩ := eX w5.heap.size;have GU : Hid (∀ {A : Option Addr} {C : List Int}, Sl w5 w5.heap.size 1 A nn nn (zE C) → Sl V g 1 A nn nn (zE C)) := fun h => by rw [hg]; exact h.below Bh lR
 rw [← hg] at HG Pi ⊢;clear hg;refine xY [(11, 0), (0, 1), (25, 0), (0, 2), (30, 1), (0, 0)] 39 (nn) (ShR w #[.slice An nn cn, .slice Ad nd cd] A2 A4 nn g C2 C4 (Pt nn ds m)) (by (try dsimp only [gt]); exact ⟨0, _, rfl, Nat.zero_le _, rfl, HG, ki _ _ _, GU DN, GU Bz, Cf.l.trans (Bh.mono Cf.l.size)⟩) (by kernel_rfl) ?_;intro u1 p39 gk wr a hrel ha J1 K1 EB ME;dsimp only [za, Go.Proofs.YtkkobemhbicjgaaGreatDoor.v1, Nat.reduceAdd] at ha;subst ha;clear HG DN Bz Cf Bh GU;obtain ⟨k, cs, rfl, hk, rfl, hG, hC, h2, h4, hL⟩ := hrel;have HG := iD hG.out; have HC := iD hC.out; have H2 := iD h2.out; have H4 := iD h4.out; have HL := iD hL.out;clear hG hC h2 h4 hL;by_cases hlt : k < nn; rotate_left
 ·have q1 : decide (k < nn) = false := by simpa using hlt
  obtain rfl : k = nn := by omega
  go_wp2_with fail
  go_ret2;exact ⟨some ⟨g, 0, none⟩, k, rfl, fun v hv => ⟨g, 0, rfl, by rw [Nat.zero_add, HG.cell]; exact HC.2 v hv⟩, HL⟩
 obtain ⟨b2, o2, x2, rfl, AZ, CW, KQ⟩ := H2.at1 hlt;obtain ⟨b4, o4, x4, rfl, Be, IP, AU⟩ := H4.at1 hlt;obtain ⟨u0, e0⟩ := HC.at HG (j := k * 4) (by omega);obtain ⟨u1, e1⟩ := HC.at HG (j := k * 4 + 1) (by omega);obtain ⟨u2, e2⟩ := HC.at HG (j := k * 4 + 2) (by omega);obtain ⟨u3, e3⟩ := HC.at HG (j := k * 4 + 3) (by omega);have f0 := HG.frozen (k * 4);have f1 := HG.frozen (k * 4 + 1);have f2 := HG.frozen (k * 4 + 2);have f3 := HG.frozen (k * 4 + 3);obtain ⟨B1, PE⟩ := eX ((bits .and .i64 x2 1 != 0));obtain ⟨B2, EU⟩ := eX ((bits .and .i64 x4 1 != 0));obtain ⟨B3, AX⟩ := eX ((bits .and .i64 x2 2 != 0));obtain ⟨B4, Tj⟩ := eX ((bits .and .i64 x4 2 != 0))
 have Wt : Hid (Value.bool B1 = .bool (Pt nn ds m k)) := by
  unfold Hid;rw [Lc.out k hlt, PE, List.getD_eq_getElem?_getD, CW]; rfl
 have q2 := PE.symm; have q3 := EU.symm; have q4 := AX.symm; have q5 := Tj.symm;clear PE EU AX Tj CW IP;have q1 : decide (k < nn) = true := by simpa using hlt
 have Aw : nn ≤ 9223372036854775807 := by omega
 go_upto_region 10 with (fail);clear q1;refine fv (fun W' => W'.cell? ⟨b2, o2 + k, none⟩ = some (.int .i64 x2) ∧ W'.cell? ⟨b4, o4 + k, none⟩ = some (.int .i64 x4)) [28] ?_ fun AA => ?_
 ·exact ⟨KQ, AU⟩
 try dsimp only at AA
 refine tk 0 42 (mf 29 1) AA ?_;refine tk 1 43 (mf 29 2) AA ?_;refine tk 2 44 (mf 29 3) AA ?_;refine tk 3 45 (mf 29 4) AA ?_;refine tk 4 46 (mf 29 5) AA ?_;refine ty 5 47 (mf 29 6) AA (y := by intro w AL; have c2 := AL.1; go_simp; try with_reducible rfl) (h := ?_);refine tk 6 48 (mf 29 7) AA ?_;refine tk 7 49 (mf 29 8) AA ?_;refine tk 8 50 (mf 29 9) AA ?_;refine tk 9 51 (mf 29 10) AA ?_;refine tk 10 52 (mf 29 11) AA ?_;refine ty 11 53 (mf 29 12) AA (y := by intro w AL; have c4 := AL.2; go_simp; try with_reducible rfl) (h := ?_);refine tk 12 54 (mf 29 13) AA ?_;refine tk 13 55 (mf 29 14) AA ?_;refine tk 14 56 (mf 29 15) AA ?_;refine tk 15 57 (mf 29 16) AA ?_;refine tk 16 58 (mf 29 17) AA ?_;refine ty 17 59 (mf 29 18) AA (y := by intro w AL; have c2 := AL.1; go_simp; try with_reducible rfl) (h := ?_);refine tk 18 60 (mf 29 19) AA ?_;refine tk 19 61 (mf 29 20) AA ?_
 refine tk 20 62 (mf 29 21) AA ?_;refine tk 21 63 (mf 29 22) AA ?_;refine tk 22 64 (mf 29 23) AA ?_;refine ty 23 65 (mf 29 24) AA (y := by intro w AL; have c4 := AL.2; go_simp; try with_reducible rfl) (h := ?_);refine tk 24 66 (mf 29 25) AA ?_;refine tk 25 67 (mf 29 26) AA ?_;refine tk 26 68 (mf 29 27) AA ?_;refine tk 27 69 (mf 29 28) AA ?_;refine tb 28 (mf 29 29) fun K hK => ?_
 go_simp
 refine hK _ _ (fun h => by cases h) (fun _ => ?_)
 try clear AA
 clear hK K;refine tK ?_;have DR : Hid (AJ (((((wr.setCell ⟨g, k * 4, none⟩ (.bool B1)).setCell ⟨g, k * 4 + 1, none⟩ (.bool B2)).setCell ⟨g, k * 4 + 2, none⟩ (.bool B3)).setCell ⟨g, k * 4 + 3, none⟩ (.bool B4)).drew) g 140 ((((cs.setIfInBounds (k * 4) (.bool B1)).setIfInBounds (k * 4 + 1) (.bool B2)).setIfInBounds (k * 4 + 2) (.bool B3)).setIfInBounds (k * 4 + 3) (.bool B4))) := (((HG.set _ _).set _ _).set _ _).set _ _;have Fu := iD (HC.step (b := .bool B2) (c := .bool B3) (d := .bool B4) hlt Wt);have Hw : Hid (Below w.heap.size w (((((wr.setCell ⟨g, k * 4, none⟩ (.bool B1)).setCell ⟨g, k * 4 + 1, none⟩ (.bool B2)).setCell ⟨g, k * 4 + 2, none⟩ (.bool B3)).setCell ⟨g, k * 4 + 3, none⟩ (.bool B4)).drew)) := ((((HL.setCell Pi.out _).setCell Pi.out _).setCell Pi.out _).setCell Pi.out _).drew
 have BM : Hid (Sl (((((wr.setCell ⟨g, k * 4, none⟩ (.bool B1)).setCell ⟨g, k * 4 + 1, none⟩ (.bool B2)).setCell ⟨g, k * 4 + 2, none⟩ (.bool B3)).setCell ⟨g, k * 4 + 3, none⟩ (.bool B4)).drew) g 1 (some ⟨b2, o2, none⟩) nn nn (zE C2)) := (((H2.setCell (p := ⟨g, k * 4, none⟩) lR _).setCell (p := ⟨g, k * 4 + 1, none⟩) lR _).setCell (p := ⟨g, k * 4 + 2, none⟩) lR _).setCell (p := ⟨g, k * 4 + 3, none⟩) lR _;have BL : Hid (Sl (((((wr.setCell ⟨g, k * 4, none⟩ (.bool B1)).setCell ⟨g, k * 4 + 1, none⟩ (.bool B2)).setCell ⟨g, k * 4 + 2, none⟩ (.bool B3)).setCell ⟨g, k * 4 + 3, none⟩ (.bool B4)).drew) g 1 (some ⟨b4, o4, none⟩) nn nn (zE C4)) := (((H4.setCell (p := ⟨g, k * 4, none⟩) lR _).setCell (p := ⟨g, k * 4 + 1, none⟩) lR _).setCell (p := ⟨g, k * 4 + 2, none⟩) lR _).setCell (p := ⟨g, k * 4 + 3, none⟩) lR _;clear HG HC H2 H4 HL e0 e1 e2 e3 f0 f1 f2 f3 q2 q3 q4 q5 KQ AU Wt
 generalize World.drew (World.setCell (World.setCell (World.setCell (World.setCell wr _ _) _ _) _ _) _ _) = X at *;have Jo : IntKind.i64.wrap ((k : Int) + 1) = (k : Int) + 1 := IntWalk.i64_in _ (by omega)
 go_wp2_with fail
 refine Handed.intro (nn - (k + 1)) (by omega) (EB _ _ _ (wW.back 39 ?_ (by kernel_rfl)));dsimp only [gt];exact ⟨k + 1, _, by go_num, hlt, rfl, DR, Fu, BM, BL, Hw⟩
theorem eo {ns : List Nd} {ds : List Dv} {co : Int} {m : List Int} {ls : List Lk} {pr : List Int} {d no q : Int} : zn ns ds co ⟨m, ls, pr⟩ ⟨3, d, no, p, q⟩ = if (yK ⟨m, ls, pr⟩ d p).ov then ⟨0, (yK ⟨m, ls, pr⟩ d p).h, ⟨(yK ⟨m, ls, pr⟩ d p).t.s, ls, pr⟩, true⟩ else if (yA ns ds ls ⟨3, d, no, p, q⟩).2 then ⟨0, (yK ⟨m, ls, pr⟩ d p).h, ⟨(yK ⟨m, ls, pr⟩ d p).t.s, (yA ns ds ls ⟨3, d, no, p, q⟩).1, pr⟩, false⟩ else ⟨0, 4 :: (yK ⟨m, ls, pr⟩ d p).h, ⟨(yK ⟨m, ls, pr⟩ d p).t.s, ls, pr⟩, false⟩ := by
 rw [qF (.inl rfl)];unfold yK;dsimp only;by_cases h : rA (m.getD d.toNat 0) p = true
 ·rw [if_pos h, if_pos h]; rfl
 ·rw [if_neg h, if_neg h, if_neg (by decide)]; rfl
theorem ia (t : Sm) (d p : Int) : (yK t d p).h.length ≤ 1 := by
 unfold yK;split
 ·exact Nat.le_refl _
 ·unfold su; split
  ·exact Nat.zero_le _
  ·exact Nat.le_refl _
theorem jB (An Ad As Al Ap : Option Addr) (nn cn nd cd n c nl cl np cp : Nat) (ns : List Nd) (ds : List Dv) (m : List Int) (ls : List Lk) (pr : List Int) (co k d no p q : Int) (w : World) (h : yc w An Ad As Al Ap nn cn nd cd n c nl cl np cp ns ds m ls pr) (CP : uL ns ds ⟨m, ls, pr⟩) (hx : zc ns.length ds.length ⟨k, d, no, p, q⟩ = 0) (DT : 0 ≤ co ∧ co ≤ 7) (hk : k = 5) :
 Calls prog 115 #[.agg #[.slice An nn cn, .slice Ad nd cd], .agg #[.slice As n c, .int .i64 co, .slice Al nl cl, .slice Ap np cp, .bool false], .agg #[.int .i64 k, .int .i64 d, .int .i64 no, .int .i64 p, .int .i64 q]] w (tF w As Al Ap n nl np co (zn ns ds co ⟨m, ls, pr⟩ ⟨k, d, no, p, q⟩)) := by
 obtain ⟨Da, Hl, ES⟩ := h.ln;have RL : pr.length = np := h.hp.len (fun _ => rfl) (by decide);have HH := iD h;have HB := iD (Bw.new4 w (30, #[.slice An nn cn, .slice Ad nd cd]) (96, #[.slice As n c, .int .i64 co, .slice Al nl cl, .slice Ap np cp, .bool false]) (43, #[.int .i64 k, .int .i64 d, .int .i64 no, .int .i64 p, .int .i64 q]) (96, #[.slice none 0 0, .int .i64 0, .slice none 0 0, .slice none 0 0, .bool false]));obtain ⟨Dr, CW, GX, IP, Jl⟩ := wN hx;have AE := GX hk;dsimp only at Dr CW GX IP Jl AE;obtain ⟨GM, hsl, -⟩ := zS CP.s;have He := iD (xk.of GM);have Bv := iD CP;have Bq : nn ≤ 32 := by have := He.nl; omega
 have AB : nd ≤ 64 := by have := He.dl; omega
 dsimp only at hsl;have EX := iD DT;have HK := iD hk;clear h CP hx GM DT hk
 go_enter func115, ntmps115
 go_upto_region 1 with (fail);dsimp only at HB;generalize World.alloc (World.alloc (World.alloc (World.alloc w _) _) _) _ = W at *;rw [show w.heap.size + 1 + 1 = w.heap.size + 2 from rfl, show w.heap.size + 2 + 1 = w.heap.size + 3 from rfl];have HM := iD (HH.below HB.l);have hk := HK.out;clear HK;subst hk;obtain ⟨v, rfl⟩ := Int.eq_ofNat_of_zero_le AE.1;have hv : v < nn := by omega
 clear Dr CW GX IP Jl AE;have Ae := iD (me An Ad As nn cn nd cd n c ns ds m W HM.la HM.hn HM.hd HM.hs HM.sn HM.sd Bv.s);obtain ⟨k0, k1⟩ := HB.b0.d2;obtain ⟨g0, g1, g2, g3, g4⟩ := HB.b1.d5
 go_wp2_with fail
 clear k0 k1 g0 g1 g2 g3 g4;refine Ae.mono ?_;rintro e w1 ⟨A, cA, rfl, hS, hb⟩;have AQ := iD (HB.later hb);obtain ⟨b, o, rfl, hc⟩ := hS v hv;have Lc : Hid (JM (zW ns.length ds (xe m 2)) (v : Int) = Pt nn ds m v) := by unfold Hid Pt; rw [Da]
 clear hS hb Ae HB HM;obtain ⟨L, hL⟩ := eX (Pt nn ds m v);rw [← hL] at hc Lc;clear hL;have s2 := AQ.b2.c2;have Aw : nn ≤ 9223372036854775807 := by omega
 rcases L with _ | _
 ·have HT : Hid (zn ns ds co ⟨m, ls, pr⟩ ⟨5, d, v, p, q⟩ = ⟨0, [], ⟨m, ls, ws pr v⟩, false⟩) := by unfold Hid; rw [fc rfl]; dsimp only; rw [Lc.out]; rfl
  go_upto_region 4 with (fail);clear hc;obtain ⟨g0, g1, g2, g3, g4⟩ := AQ.b1.d5
  go_wp2_with fail
  clear g0 g1 g2 g3 g4 s2;refine (mt Al Ap nl cl np cp co v pr w1 (HH.below AQ.l).hp (by have := rV Bv.p; dsimp only at this; omega) (tS _ _ _ |>.mp Bv.p).2).mono ?_;rintro e V ⟨A4, n4, c4, rfl, hS, hW, hb⟩;have BS := iD (AQ.later hb);have Bz := iD hS.out;have Tn : Hid (w.heap.size + 4 ≤ w1.heap.size) := AQ.b3.lt
  have OB : Hid (Sl w w.heap.size 1 A4 n4 c4 (zE (ws pr v)) ∨ ∀ b off, A4 = some ⟨b, off, none⟩ → w.heap.size + 4 ≤ b) := by
   rcases hW.out with ⟨rfl, rfl, rfl, e⟩ | h
   ·left; rw [e]; exact HH.hp
   ·right; intro b off e; have := h b off e; have := Tn.out; omega
  have DV : Hid (Ji w.heap.size Ap A4 np n4) := by
   rcases hW.out with ⟨h, h2, -⟩ | h
   ·exact .inl ⟨h, h2⟩
   ·exact .inr fun b off e => by have := h b off e; have := Tn.out; omega
  clear hS hW hb AQ;have g1 := BS.b1.cell 1;have g2 := BS.b1.cell 2;have g3 := BS.b1.cell 3;have f1 := BS.b1.frozen 1;have f2 := BS.b1.frozen 2;have f3 := BS.b1.frozen 3;go_upto_region 5 with (fail);clear g1 g2 g3 f1 f2 f3;have Ah : Hid (Bw w [(30, #[.slice An nn cn, .slice Ad nd cd]), (96, #[.slice As n c, .int .i64 co, .slice Al nl cl, .slice A4 n4 c4, .bool false]), (43, #[.int .i64 5, .int .i64 d, .int .i64 v, .int .i64 p, .int .i64 q]), (96, #[.slice none 0 0, .int .i64 0, .slice none 0 0, .slice none 0 0, .bool false])] (((V.setCell ⟨w.heap.size + 1, 1, none⟩ (.int .i64 co)).setCell ⟨w.heap.size + 1, 2, none⟩ (.slice Al nl cl)).setCell ⟨w.heap.size + 1, 3, none⟩ (.slice A4 n4 c4))) := ((BS.set 1 1 (.int .i64 co) rfl).set 1 2 (.slice Al nl cl) rfl).set 1 3 (.slice A4 n4 c4) rfl
  have CX : Hid (∀ {z0 n0 c0 : Nat} {A0 : Option Addr} {x0 : List Value}, Sl V V.heap.size z0 A0 n0 c0 x0 → (∀ b off, A0 = some ⟨b, off, none⟩ → w.heap.size + 4 ≤ b) → Sl (((V.setCell ⟨w.heap.size + 1, 1, none⟩ (.int .i64 co)).setCell ⟨w.heap.size + 1, 2, none⟩ (.slice Al nl cl)).setCell ⟨w.heap.size + 1, 3, none⟩ (.slice A4 n4 c4)) (((V.setCell ⟨w.heap.size + 1, 1, none⟩ (.int .i64 co)).setCell ⟨w.heap.size + 1, 2, none⟩ (.slice Al nl cl)).setCell ⟨w.heap.size + 1, 3, none⟩ (.slice A4 n4 c4)).heap.size z0 A0 n0 c0 x0) := fun h hf => ((((h.ne (i := 1) (fun b off e => by have := hf b off e; omega)).ne (i := 2) (fun b off e => by have := hf b off e; omega)).ne (i := 3) (fun b off e => by have := hf b off e; omega))).more (by simp [World.setCell])
  have Gp := iD (CX Bz);clear BS Bz CX;generalize World.setCell (World.setCell (World.setCell V _ _) _ _) _ _ = X at *;obtain ⟨g0, g1, g2, g3, g4⟩ := Ah.b1.d5;have d0 := Ah.b3.cell 0;have y0 := Ah.b3.frozen 0;have d1 := Ah.b3.cell 1;have y1 := Ah.b3.frozen 1;have d2 := Ah.b3.cell 2;have y2 := Ah.b3.frozen 2;have d3 := Ah.b3.cell 3;have y3 := Ah.b3.frozen 3;have d4 := Ah.b3.cell 4;have y4 := Ah.b3.frozen 4;refine fv (fun W' => W'.cell? ⟨w.heap.size + 1, 0, none⟩ = some (.slice As n c) ∧ W'.cell? ⟨w.heap.size + 1, 1, none⟩ = some (.int .i64 co) ∧ W'.cell? ⟨w.heap.size + 1, 2, none⟩ = some (.slice Al nl cl) ∧ W'.cell? ⟨w.heap.size + 1, 3, none⟩ = some (.slice A4 n4 c4) ∧ W'.cell? ⟨w.heap.size + 1, 4, none⟩ = some (.bool false)) [2, 3] ?_ fun AA => ?_
  ·exact ⟨g0, g1, g2, g3, g4⟩
  try dsimp only at AA
  refine tk 0 37 (mf 4 1) AA ?_;refine tk 1 6 (mf 4 2) AA ?_;refine tb 2 (mf 4 3) fun K hK => ?_
  go_simp
  refine hK _ _ (fun h => by cases h) (fun _ => ?_)
  try clear AA
  clear hK K;refine tb 3 (mf 4 4) fun K hK => ?_
  go_simp
  refine hK _ _ (fun h => by cases h) (fun _ => ?_)
  try clear AA
  clear hK K;refine tK ?_;have HE := iD (Ah.st5 (.slice As n c) (.int .i64 co) (.slice Al nl cl) (.slice A4 n4 c4) (.bool false)).drew; unfold st5 at HE;have CZ : Hid (xF ((st5 X (w.heap.size + 3) (.slice As n c) (.int .i64 co) (.slice Al nl cl) (.slice A4 n4 c4) (.bool false))).drew none As Al A4 0 0 n c nl cl n4 c4 ⟨[], ⟨m, ls, ws pr v⟩, true⟩) := ⟨Sl.nil _ _ _, (HH.below HE.l).hs, (HH.below HE.l).hl, uI OB HE.l (fun hf => sw (Gp hf) (fun b off e => by have := hf b off e; omega))⟩;unfold st5 at CZ;clear d0 d1 d2 d3 d4 y0 y1 y2 y3 y4 g0 g1 g2 g3 g4
  go_wp2_with fail
  generalize World.drew (World.setCell (World.setCell (World.setCell (World.setCell (World.setCell X _ _) _ _) _ _) _ _) _ _) = z at *;obtain ⟨q0, q1, q2, q3, q4⟩ := HE.b3.d5;exact bodyPost_ret (v := .tuple #[.slice none 0 0, .agg #[.slice As n c, .int .i64 co, .slice Al nl cl, .slice A4 n4 c4, .bool false], .int .i64 0]) (by simp [results, results115, go_sem, q0, q1, q2, q3, q4]) rfl ⟨_, _, _, _, _, _, _, _, _, _, _, _, by rw [HT.out], by rw [HT.out]; exact fun _ => CZ, ⟨.inl ⟨rfl, rfl⟩, .inl ⟨rfl, rfl⟩, .inl ⟨rfl, rfl⟩, DV⟩, HE.l⟩
 ·have HT : Hid (zn ns ds co ⟨m, ls, pr⟩ ⟨5, d, v, p, q⟩ = ⟨0, [8], ⟨m, ls, pr⟩, false⟩) := by unfold Hid; rw [fc rfl]; dsimp only; rw [Lc.out]; rfl
  go_upto_region 3 with (fail);clear hc s2;obtain ⟨g0, g1, g2, g3, g4⟩ := AQ.b1.d5;have Gv : Hid (Below w1.heap.size w1 (w1.alloc (.cells #[.int .i64 8] 3)).drew) := ((Below.refl w1.heap.size w1).alloc lR (.cells #[.int .i64 8] 3)).drew;have BH := iD (AQ.later Gv);have Rv : Hid (AJ (w1.alloc (.cells #[.int .i64 8] 3)).drew w1.heap.size 3 #[.int .i64 8]) := AJ.new w1 3 #[.int .i64 8];have Gw : w1.heap.size ≠ w.heap.size + 3 := by have := AQ.b3.lt; omega
  refine fv (fun W' => W'.cell? ⟨w.heap.size + 1, 0, none⟩ = some (.slice As n c) ∧ W'.cell? ⟨w.heap.size + 1, 1, none⟩ = some (.int .i64 co) ∧ W'.cell? ⟨w.heap.size + 1, 2, none⟩ = some (.slice Al nl cl) ∧ W'.cell? ⟨w.heap.size + 1, 3, none⟩ = some (.slice Ap np cp) ∧ W'.cell? ⟨w.heap.size + 1, 4, none⟩ = some (.bool false)) [5] ?_ fun AA => ?_
  ·exact ⟨g0, g1, g2, g3, g4⟩
  try dsimp only at AA
  refine tk 1 29 (ma 6 2) AA ?_;refine tk 2 30 (ma 6 6) AA ?_;refine tb 0 (mf 6 3) fun K hK => ?_
  go_simp
  refine hK _ _ (fun _ => ⟨BH.b1.cell 0, BH.b1.cell 1, BH.b1.cell 2, BH.b1.cell 3, BH.b1.cell 4⟩) fun p => (fun AA => ?_) (p rfl)
  clear p hK K;(try dsimp only at AA);generalize World.drew (World.alloc w1 _) = wa at *;have d0 := BH.b3.cell 0;have y0 := BH.b3.frozen 0;have d1 := BH.b3.cell 1;have y1 := BH.b3.frozen 1;have d2 := BH.b3.cell 2;have y2 := BH.b3.frozen 2;have d3 := BH.b3.cell 3;have y3 := BH.b3.frozen 3;have d4 := BH.b3.cell 4;have y4 := BH.b3.frozen 4;refine tk 3 6 (mf 6 4) AA ?_;have HE := iD (BH.st5 (.slice As n c) (.int .i64 co) (.slice Al nl cl) (.slice Ap np cp) (.bool false)); unfold st5 at HE;refine tb 4 (mf 6 5) fun K hK => ?_
  go_simp
  refine hK _ _ (fun _ => ⟨(HE.b1.cell 0), (HE.b1.cell 1), (HE.b1.cell 2), (HE.b1.cell 3), (HE.b1.cell 4)⟩) fun p => (fun AA => ?_) (p rfl)
  clear p hK K;(try dsimp only at AA);refine tb 5 (mf 6 6) fun K hK => ?_
  go_simp
  refine hK _ _ (fun h => by cases h) (fun _ => ?_)
  try clear AA
  clear hK K;refine tK ?_;have CZ : Hid (xF ((st5 wa (w.heap.size + 3) (.slice As n c) (.int .i64 co) (.slice Al nl cl) (.slice Ap np cp) (.bool false))) (some ⟨w1.heap.size, 0, none⟩) As Al Ap 1 1 n c nl cl np cp ⟨[8], ⟨m, ls, pr⟩, true⟩) := ⟨rE (fG Rv Gw), (HH.below HE.l).hs, (HH.below HE.l).hl, (HH.below HE.l).hp⟩;unfold st5 at CZ;clear d0 d1 d2 d3 d4 y0 y1 y2 y3 y4 g0 g1 g2 g3 g4
  go_wp2_with fail
  generalize World.setCell (World.setCell (World.setCell (World.setCell (World.setCell wa _ _) _ _) _ _) _ _) _ _ = z at *;obtain ⟨q0, q1, q2, q3, q4⟩ := HE.b3.d5;exact bodyPost_ret (v := .tuple #[.slice (some ⟨w1.heap.size, 0, none⟩) 1 1, .agg #[.slice As n c, .int .i64 co, .slice Al nl cl, .slice Ap np cp, .bool false], .int .i64 0]) (by simp [results, results115, go_sem, q0, q1, q2, q3, q4]) rfl ⟨_, _, _, _, _, _, _, _, _, _, _, _, by rw [HT.out], by rw [HT.out]; exact fun _ => CZ, ⟨.inr (fun b off e => by injection e with e; injection e with e1 e2; rw [← e1]; exact AQ.l.size), .inl ⟨rfl, rfl⟩, .inl ⟨rfl, rfl⟩, .inl ⟨rfl, rfl⟩⟩, HE.l⟩
theorem ib (An Ad As Al Ap : Option Addr) (nn cn nd cd n c nl cl np cp : Nat) (ns : List Nd) (ds : List Dv) (m : List Int) (ls : List Lk) (pr : List Int) (co k d no p q : Int) (w : World) (h : yc w An Ad As Al Ap nn cn nd cd n c nl cl np cp ns ds m ls pr) (CP : uL ns ds ⟨m, ls, pr⟩) (hx : zc ns.length ds.length ⟨k, d, no, p, q⟩ = 0) (DT : 0 ≤ co ∧ co ≤ 7) (hk : k = 3) :
 Calls prog 113 #[.agg #[.slice An nn cn, .slice Ad nd cd], .agg #[.slice As n c, .int .i64 co, .slice Al nl cl, .slice Ap np cp, .bool false], .agg #[.int .i64 k, .int .i64 d, .int .i64 no, .int .i64 p, .int .i64 q]] w (tF w As Al Ap n nl np co (zn ns ds co ⟨m, ls, pr⟩ ⟨k, d, no, p, q⟩)) := by
 obtain ⟨Da, Hl, ES⟩ := h.ln;have RL : pr.length = np := h.hp.len (fun _ => rfl) (by decide);have HH := iD h;have HB := iD (Bw.new4 w (30, #[.slice An nn cn, .slice Ad nd cd]) (96, #[.slice As n c, .int .i64 co, .slice Al nl cl, .slice Ap np cp, .bool false]) (43, #[.int .i64 k, .int .i64 d, .int .i64 no, .int .i64 p, .int .i64 q]) (96, #[.slice none 0 0, .int .i64 0, .slice none 0 0, .slice none 0 0, .bool false]));obtain ⟨Dr, CW, GX, IP, Jl⟩ := wN hx;dsimp only at Dr CW GX IP Jl;obtain ⟨GM, hsl, -⟩ := zS CP.s;have He := iD (xk.of GM);have Bv := iD CP;have Bq : nn ≤ 32 := by have := He.nl; omega
 have AB : nd ≤ 64 := by have := He.dl; omega
 dsimp only at hsl;have EX := iD DT;have HK := iD hk;have Ab := iD hx;clear h CP hx GM DT hk
 go_enter func113, ntmps113
 go_upto_region 1 with (fail);dsimp only at HB;generalize World.alloc (World.alloc (World.alloc (World.alloc w _) _) _) _ = W at *;rw [show w.heap.size + 1 + 1 = w.heap.size + 2 from rfl, show w.heap.size + 2 + 1 = w.heap.size + 3 from rfl];have HM := iD (HH.below HB.l);have hk := HK.out;clear HK;subst hk;clear Dr CW GX IP Jl;obtain ⟨O, hO⟩ := eX (yK ⟨m, ls, pr⟩ d p);have SS := iD (nT An Ad As Al Ap nn cn nd cd n c nl cl np cp ns ds m ls pr co 3 d no p q W HM Bv Ab EX (.inl rfl));rw [← hO] at SS
 have AK : Hid (zn ns ds co ⟨m, ls, pr⟩ ⟨3, d, no, p, q⟩ = if O.ov then ⟨0, O.h, ⟨O.t.s, ls, pr⟩, true⟩ else if (yA ns ds ls ⟨3, d, no, p, q⟩).2 then ⟨0, O.h, ⟨O.t.s, (yA ns ds ls ⟨3, d, no, p, q⟩).1, pr⟩, false⟩ else ⟨0, 4 :: O.h, ⟨O.t.s, ls, pr⟩, false⟩) := by
  unfold Hid;rw [hO, eo]
 have BJ : Hid (O.h.length ≤ 1) := by unfold Hid; rw [hO]; exact ia _ _ _
 clear hO;obtain ⟨k0, k1⟩ := HB.b0.d2;obtain ⟨g0, g1, g2, g3, g4⟩ := HB.b1.d5;obtain ⟨s0, s1, s2, s3, s4⟩ := HB.b2.d5
 go_wp2_with fail
 clear k0 k1 g0 g1 g2 g3 g4 s0 s1 s2 s3 s4;refine SS.mono ?_;rintro e w1 ⟨A1, A2, n1, c1, c2, rfl, Tf, AW, AH, hF2, hb⟩;have AQ := iD (HB.later hb);have PM : Hid (w.heap.size + 4 ≤ W.heap.size) := HB.b3.lt;have BO := iD Tf.out;have DN := iD AW.out;have AP : Hid (O.h.length = n1) := Tf.len (fun _ => rfl) (by decide)
 have UB : Hid (Ji w.heap.size none A1 0 n1) := by
  rcases AH.out with h | h
  ·exact .inl h
  ·exact .inr fun b off e => by have := h b off e; have := PM.out; omega
 have DR : Hid (∀ b off, A1 = some ⟨b, off, none⟩ → w.heap.size + 4 ≤ b) := by
  rcases AH.out with ⟨h, -⟩ | h
  ·exact fun b off e => by rw [h] at e; cases e
  ·exact fun b off e => by have := h b off e; have := PM.out; omega
 have Jy : Hid (Sl w w.heap.size 1 A2 n c2 (zE O.t.s) ∨ ∀ b off, A2 = some ⟨b, off, none⟩ → w.heap.size + 4 ≤ b) := by
  rcases hF2.out with ⟨rfl, rfl, e⟩ | h
  ·left; rw [e]; exact HH.hs
  ·right; intro b off e; have := h b off e; have := PM.out; omega
 have Si : Hid (Ji w.heap.size As A2 n n) := by
  rcases hF2.out with ⟨h, -⟩ | h
  ·exact .inl ⟨h, rfl⟩
  ·exact .inr fun b off e => by have := h b off e; have := PM.out; omega
 clear Tf AW AH hF2 hb SS HB HM Ab EX;obtain ⟨g0, g1, g2, g3, g4⟩ := AQ.b1.d5;obtain ⟨f0, f1, f2, f3⟩ := AQ.b1.e4;have f4 := AQ.b1.frozen 4;go_upto_region 2 with (fail);clear g0 g1 g2 g3 g4 f0 f1 f2 f3 f4;have Ef : Hid (Bw w [(30, #[.slice An nn cn, .slice Ad nd cd]), (96, #[.slice A2 n c2, .int .i64 co, .slice Al nl cl, .slice Ap np cp, .bool O.ov]), (43, #[.int .i64 3, .int .i64 d, .int .i64 no, .int .i64 p, .int .i64 q]), (96, #[.slice none 0 0, .int .i64 0, .slice none 0 0, .slice none 0 0, .bool false])] (st5 w1 (w.heap.size + 1) (.slice A2 n c2) (.int .i64 co) (.slice Al nl cl) (.slice Ap np cp) (.bool O.ov))) := ((((AQ.set 1 0 (.slice A2 n c2) rfl).set 1 1 (.int .i64 co) rfl).set 1 2 (.slice Al nl cl) rfl).set 1 3 (.slice Ap np cp) rfl).set 1 4 (.bool O.ov) rfl
 have KX := iD (KG (x := w.heap.size + 1) (a := .slice A2 n c2) (b := .int .i64 co) (d := .slice Al nl cl) (e := .slice Ap np cp) (f := .bool O.ov) BO (fun b off e => by have := DR b off e; omega));have KW : Hid ((∀ b off, A2 = some ⟨b, off, none⟩ → w.heap.size + 4 ≤ b) → Sl (st5 w1 (w.heap.size + 1) (.slice A2 n c2) (.int .i64 co) (.slice Al nl cl) (.slice Ap np cp) (.bool O.ov)) (st5 w1 (w.heap.size + 1) (.slice A2 n c2) (.int .i64 co) (.slice Al nl cl) (.slice Ap np cp) (.bool O.ov)).heap.size 1 A2 n c2 (zE O.t.s)) := fun hf => KG DN (fun b off e => by have := hf b off e; omega)
 unfold st5 at Ef KX KW;clear AQ BO DN;generalize World.setCell (World.setCell (World.setCell (World.setCell (World.setCell w1 _ _) _ _) _ _) _ _) _ _ = Y at *;have g4 := Ef.b1.cell 4;rcases hov : O.ov with _ | _; rotate_left
 ·rw [hov] at g4 Ef;have HT : Hid (zn ns ds co ⟨m, ls, pr⟩ ⟨3, d, no, p, q⟩ = ⟨0, O.h, ⟨O.t.s, ls, pr⟩, true⟩) := by unfold Hid; rw [AK.out, if_pos hov]
  clear hov;go_upto_region 3 with (fail);clear g4;obtain ⟨g0, g1, g2, g3, g4⟩ := Ef.b1.d5;have d0 := Ef.b3.cell 0;have y0 := Ef.b3.frozen 0;have d1 := Ef.b3.cell 1;have y1 := Ef.b3.frozen 1;have d2 := Ef.b3.cell 2;have y2 := Ef.b3.frozen 2;have d3 := Ef.b3.cell 3;have y3 := Ef.b3.frozen 3;have d4 := Ef.b3.cell 4;have y4 := Ef.b3.frozen 4;refine fv (fun W' => W'.cell? ⟨w.heap.size + 1, 0, none⟩ = some (.slice A2 n c2) ∧ W'.cell? ⟨w.heap.size + 1, 1, none⟩ = some (.int .i64 co) ∧ W'.cell? ⟨w.heap.size + 1, 2, none⟩ = some (.slice Al nl cl) ∧ W'.cell? ⟨w.heap.size + 1, 3, none⟩ = some (.slice Ap np cp) ∧ W'.cell? ⟨w.heap.size + 1, 4, none⟩ = some (.bool true)) [5] ?_ fun AA => ?_
  ·exact ⟨g0, g1, g2, g3, g4⟩
  try dsimp only at AA
  refine tk 0 23 (mf 6 1) AA ?_;refine tk 1 24 (mf 6 2) AA ?_;refine tk 2 25 (mf 6 3) AA ?_;refine tk 3 6 (mf 6 4) AA ?_;have HE := iD (Ef.st5 (.slice A2 n c2) (.int .i64 co) (.slice Al nl cl) (.slice Ap np cp) (.bool true)).drew; unfold st5 at HE;refine tb 4 (mf 6 5) fun K hK => ?_
  go_simp
  refine hK _ _ (fun _ => ⟨(HE.b1.cell 0), (HE.b1.cell 1), (HE.b1.cell 2), (HE.b1.cell 3), (HE.b1.cell 4)⟩) fun p => (fun AA => ?_) (p rfl)
  clear p hK K;(try dsimp only at AA);refine tb 5 (mf 6 6) fun K hK => ?_
  go_simp
  refine hK _ _ (fun h => by cases h) (fun _ => ?_)
  try clear AA
  clear hK K;refine tK ?_;have CZ : Hid (xF ((st5 Y (w.heap.size + 3) (.slice A2 n c2) (.int .i64 co) (.slice Al nl cl) (.slice Ap np cp) (.bool true))).drew A1 A2 Al Ap n1 c1 n c2 nl cl np cp ⟨O.h, ⟨O.t.s, ls, pr⟩, true⟩) := ⟨sw KX (fun b off e => by have := DR b off e; omega), uI Jy HE.l (fun hf => sw (KW hf) (fun b off e => by have := hf b off e; omega)), (HH.below HE.l).hl, (HH.below HE.l).hp⟩;unfold st5 at CZ;clear d0 d1 d2 d3 d4 y0 y1 y2 y3 y4 g0 g1 g2 g3 g4
  go_wp2_with fail
  generalize World.drew (World.setCell (World.setCell (World.setCell (World.setCell (World.setCell Y _ _) _ _) _ _) _ _) _ _) = z at *;obtain ⟨q0, q1, q2, q3, q4⟩ := HE.b3.d5;exact bodyPost_ret (v := .tuple #[.slice A1 n1 c1, .agg #[.slice A2 n c2, .int .i64 co, .slice Al nl cl, .slice Ap np cp, .bool true], .int .i64 0]) (by simp [results, results113, go_sem, q0, q1, q2, q3, q4]) rfl ⟨_, _, _, _, _, _, _, _, _, _, _, _, by rw [HT.out], by rw [HT.out]; exact fun _ => CZ, ⟨UB, Si, .inl ⟨rfl, rfl⟩, .inl ⟨rfl, rfl⟩⟩, HE.l⟩
 rw [hov] at g4 Ef;have NK : Hid (O.ov = false) := hov;clear hov;go_upto_region 4 with (fail);clear g4;obtain ⟨k0, k1⟩ := Ef.b0.d2;obtain ⟨g0, g1, g2, g3, g4⟩ := Ef.b1.d5;obtain ⟨s0, s1, s2, s3, s4⟩ := Ef.b2.d5;have SV := iD (sc An Ad Al Ap nn cn nd cd nl cl np cp ns ds ls co 3 d no p q Y (HH.below Ef.l).la (HH.below Ef.l).hn (HH.below Ef.l).hd (HH.below Ef.l).hl (HH.below Ef.l).sn (HH.below Ef.l).sd (by decide) Bv.l)
 go_wp2_with fail
 clear k0 k1 g0 g1 g2 g3 g4 s0 s1 s2 s3 s4;refine SV.mono ?_;rintro e w2 ⟨A, mA, cA, rfl, hS, hW, hb⟩;have Ai := iD (Ef.later hb);have Vu := iD ((KX.below hb lR).more hb.size);have Vs : Hid ((∀ b off, A2 = some ⟨b, off, none⟩ → w.heap.size + 4 ≤ b) → Sl w2 w2.heap.size 1 A2 n c2 (zE O.t.s)) := fun hf => ((KW hf).below hb lR).more hb.size
 clear KX KW;have DN := iD hS.out;have OA : Hid (w.heap.size + 4 ≤ Y.heap.size) := Ef.b3.lt
 have OB : Hid (Sl w w.heap.size 3 A mA cA ((yA ns ds ls ⟨3, d, no, p, q⟩).1.flatMap Lk.cells) ∨ ∀ b off, A = some ⟨b, off, none⟩ → w.heap.size + 4 ≤ b) := by
  rcases hW.out with ⟨rfl, rfl, rfl, e⟩ | h
  ·left; rw [e]; exact HH.hl
  ·right; intro b off e; have := h b off e; have := OA.out; omega
 have DV : Hid (Ji w.heap.size Al A nl mA) := by
  rcases hW.out with ⟨h, h2, -⟩ | h
  ·exact .inl ⟨h, h2⟩
  ·exact .inr fun b off e => by have := h b off e; have := OA.out; omega
 clear hS hW hb SV;obtain ⟨L, hL⟩ := eX ((yA ns ds ls ⟨3, d, no, p, q⟩).1);rw [← hL] at DN OB;have Kw := iD hL;clear hL;go_upto_region 5 with (fail);have BS := iD (Ai.later ((Below.refl _ w2).alloc lR (.cells #[.int .i64 co, .slice A mA cA, .slice Ap np cp] 37)));have Hz := iD (AJ.new w2 37 #[.int .i64 co, .slice A mA cA, .slice Ap np cp]);have II : Hid (Sl (w2.alloc (.cells #[.int .i64 co, .slice A mA cA, .slice Ap np cp] 37)) (w2.alloc (.cells #[.int .i64 co, .slice A mA cA, .slice Ap np cp] 37)).heap.size 3 A mA cA (L.flatMap Lk.cells)) := (DN.alloc lR _).more (by simp);have KY : Hid (Sl (w2.alloc (.cells #[.int .i64 co, .slice A mA cA, .slice Ap np cp] 37)) (w2.alloc (.cells #[.int .i64 co, .slice A mA cA, .slice Ap np cp] 37)).heap.size 1 A1 n1 c1 (zE O.h)) := (Vu.alloc lR _).more (by simp)
 have Ic : Hid ((∀ b off, A2 = some ⟨b, off, none⟩ → w.heap.size + 4 ≤ b) → Sl (w2.alloc (.cells #[.int .i64 co, .slice A mA cA, .slice Ap np cp] 37)) (w2.alloc (.cells #[.int .i64 co, .slice A mA cA, .slice Ap np cp] 37)).heap.size 1 A2 n c2 (zE O.t.s)) := fun hf => ((Vs hf).alloc lR _).more (by simp)
 clear DN Ai Vu Vs;generalize World.alloc w2 _ = V at *;obtain ⟨gb, IW⟩ := eX w2.heap.size;rw [← IW] at Hz ⊢;clear IW;rcases AZ : (yA ns ds ls ⟨3, d, no, p, q⟩).2 with _ | _; rotate_left
 ·have HT : Hid (zn ns ds co ⟨m, ls, pr⟩ ⟨3, d, no, p, q⟩ = ⟨0, O.h, ⟨O.t.s, L, pr⟩, false⟩) := by unfold Hid; rw [AK.out, NK.out, AZ, Kw.out]; rfl
  clear AZ;go_upto_region 7 with (fail);obtain ⟨e0, e1, e2⟩ := Hz.d3;have g1 := BS.b1.cell 1;have g2 := BS.b1.cell 2;have g3 := BS.b1.cell 3;have f1 := BS.b1.frozen 1;have f2 := BS.b1.frozen 2;have f3 := BS.b1.frozen 3;go_upto_region 8 with (fail);clear g1 g2 g3 f1 f2 f3;have Ah : Hid (Bw w [(30, #[.slice An nn cn, .slice Ad nd cd]), (96, #[.slice A2 n c2, .int .i64 co, .slice A mA cA, .slice Ap np cp, .bool false]), (43, #[.int .i64 3, .int .i64 d, .int .i64 no, .int .i64 p, .int .i64 q]), (96, #[.slice none 0 0, .int .i64 0, .slice none 0 0, .slice none 0 0, .bool false])] (((V.setCell ⟨w.heap.size + 1, 1, none⟩ (.int .i64 co)).setCell ⟨w.heap.size + 1, 2, none⟩ (.slice A mA cA)).setCell ⟨w.heap.size + 1, 3, none⟩ (.slice Ap np cp))) := ((BS.set 1 1 (.int .i64 co) rfl).set 1 2 (.slice A mA cA) rfl).set 1 3 (.slice Ap np cp) rfl
  have CX : Hid (∀ {z0 n0 c0 : Nat} {A0 : Option Addr} {x0 : List Value}, Sl V V.heap.size z0 A0 n0 c0 x0 → (∀ b off, A0 = some ⟨b, off, none⟩ → w.heap.size + 4 ≤ b) → Sl (((V.setCell ⟨w.heap.size + 1, 1, none⟩ (.int .i64 co)).setCell ⟨w.heap.size + 1, 2, none⟩ (.slice A mA cA)).setCell ⟨w.heap.size + 1, 3, none⟩ (.slice Ap np cp)) (((V.setCell ⟨w.heap.size + 1, 1, none⟩ (.int .i64 co)).setCell ⟨w.heap.size + 1, 2, none⟩ (.slice A mA cA)).setCell ⟨w.heap.size + 1, 3, none⟩ (.slice Ap np cp)).heap.size z0 A0 n0 c0 x0) := fun h hf => ((((h.ne (i := 1) (fun b off e => by have := hf b off e; omega)).ne (i := 2) (fun b off e => by have := hf b off e; omega)).ne (i := 3) (fun b off e => by have := hf b off e; omega))).more (by simp [World.setCell])
  clear e0 e1 e2;have Hr := iD (CX II);have SF := iD (CX KY DR);have NN : Hid ((∀ b off, A2 = some ⟨b, off, none⟩ → w.heap.size + 4 ≤ b) → Sl (((V.setCell ⟨w.heap.size + 1, 1, none⟩ (.int .i64 co)).setCell ⟨w.heap.size + 1, 2, none⟩ (.slice A mA cA)).setCell ⟨w.heap.size + 1, 3, none⟩ (.slice Ap np cp)) (((V.setCell ⟨w.heap.size + 1, 1, none⟩ (.int .i64 co)).setCell ⟨w.heap.size + 1, 2, none⟩ (.slice A mA cA)).setCell ⟨w.heap.size + 1, 3, none⟩ (.slice Ap np cp)).heap.size 1 A2 n c2 (zE O.t.s)) := fun hf => CX (Ic hf) hf
  clear BS Hz II CX KY Ic;generalize World.setCell (World.setCell (World.setCell V _ _) _ _) _ _ = X at *;obtain ⟨g0, g1, g2, g3, g4⟩ := Ah.b1.d5;have d0 := Ah.b3.cell 0;have y0 := Ah.b3.frozen 0;have d1 := Ah.b3.cell 1;have y1 := Ah.b3.frozen 1;have d2 := Ah.b3.cell 2;have y2 := Ah.b3.frozen 2;have d3 := Ah.b3.cell 3;have y3 := Ah.b3.frozen 3;have d4 := Ah.b3.cell 4;have y4 := Ah.b3.frozen 4;refine fv (fun W' => W'.cell? ⟨w.heap.size + 1, 0, none⟩ = some (.slice A2 n c2) ∧ W'.cell? ⟨w.heap.size + 1, 1, none⟩ = some (.int .i64 co) ∧ W'.cell? ⟨w.heap.size + 1, 2, none⟩ = some (.slice A mA cA) ∧ W'.cell? ⟨w.heap.size + 1, 3, none⟩ = some (.slice Ap np cp) ∧ W'.cell? ⟨w.heap.size + 1, 4, none⟩ = some (.bool false)) [5] ?_ fun AA => ?_
  ·exact ⟨g0, g1, g2, g3, g4⟩
  try dsimp only at AA
  refine tk 0 41 (mf 6 1) AA ?_;refine tk 1 42 (mf 6 2) AA ?_;refine tk 2 43 (mf 6 3) AA ?_;refine tk 3 6 (mf 6 4) AA ?_;have HE := iD (Ah.st5 (.slice A2 n c2) (.int .i64 co) (.slice A mA cA) (.slice Ap np cp) (.bool false)).drew; unfold st5 at HE;refine tb 4 (mf 6 5) fun K hK => ?_
  go_simp
  refine hK _ _ (fun _ => ⟨(HE.b1.cell 0), (HE.b1.cell 1), (HE.b1.cell 2), (HE.b1.cell 3), (HE.b1.cell 4)⟩) fun p => (fun AA => ?_) (p rfl)
  clear p hK K;(try dsimp only at AA);refine tb 5 (mf 6 6) fun K hK => ?_
  go_simp
  refine hK _ _ (fun h => by cases h) (fun _ => ?_)
  try clear AA
  clear hK K;refine tK ?_;have CZ : Hid (xF ((st5 X (w.heap.size + 3) (.slice A2 n c2) (.int .i64 co) (.slice A mA cA) (.slice Ap np cp) (.bool false))).drew A1 A2 A Ap n1 c1 n c2 mA cA np cp ⟨O.h, ⟨O.t.s, L, pr⟩, true⟩) := ⟨sw SF (fun b off e => by have := DR b off e; omega), uI Jy HE.l (fun hf => sw (NN hf) (fun b off e => by have := hf b off e; omega)), uI OB HE.l (fun hf => sw (Hr hf) (fun b off e => by have := hf b off e; omega)), (HH.below HE.l).hp⟩;unfold st5 at CZ;clear d0 d1 d2 d3 d4 y0 y1 y2 y3 y4 g0 g1 g2 g3 g4
  go_wp2_with fail
  generalize World.drew (World.setCell (World.setCell (World.setCell (World.setCell (World.setCell X _ _) _ _) _ _) _ _) _ _) = z at *;obtain ⟨q0, q1, q2, q3, q4⟩ := HE.b3.d5;exact bodyPost_ret (v := .tuple #[.slice A1 n1 c1, .agg #[.slice A2 n c2, .int .i64 co, .slice A mA cA, .slice Ap np cp, .bool false], .int .i64 0]) (by simp [results, results113, go_sem, q0, q1, q2, q3, q4]) rfl ⟨_, _, _, _, _, _, _, _, _, _, _, _, by rw [HT.out], by rw [HT.out]; exact fun _ => CZ, ⟨UB, Si, DV, .inl ⟨rfl, rfl⟩⟩, HE.l⟩
 have HT : Hid (zn ns ds co ⟨m, ls, pr⟩ ⟨3, d, no, p, q⟩ = ⟨0, 4 :: O.h, ⟨O.t.s, L, pr⟩, false⟩) := by unfold Hid; rw [AK.out, NK.out, AZ, Kw.out, ie ns ds AZ]; rfl
 clear AZ;go_upto_region 6 with (fail);have TR : n1 ≤ 1 := by have := BJ.out; have := AP.out; omega
 go_upto_region 7 with (at_builtin; go_must (refine zM rfl (.tmp 36) (.tmp 37) rfl yU (by rfl) (tV (w := V) (xs := zE [4]) lR (by decide) (by decide)) (by rfl) ((KY.alloc lR _)) (xI _) (by omega) (by omega) (by simp) ?_; intro A5 c5 V2 Ar Am EJ))
 have BH : Hid (Below V.heap.size V V2) := ((Below.refl V.heap.size V).alloc lR _).trans (yE (g := V.heap.size) Am lR (by simp));have QX : Hid (w.heap.size + 4 ≤ V.heap.size) := BS.b3.lt;have EW : Hid (Sl V2 V2.heap.size 1 A5 (1 + n1) c5 (zE (4 :: O.h))) := Sl.of_own Ar;have Jw : Hid (∀ b off, A5 = some ⟨b, off, none⟩ → w.heap.size + 4 ≤ b) := fun b off e => by have := yj Ar b off e; have := QX.out; omega
 replace BS := iD (BS.later BH);replace Hz := iD (Hz.below BH Hz.lt);replace II := iD ((II.below BH lR).more BH.size);replace Ic : Hid ((∀ b off, A2 = some ⟨b, off, none⟩ → w.heap.size + 4 ≤ b) → Sl V2 V2.heap.size 1 A2 n c2 (zE O.t.s)) := fun hf => ((Ic hf).below BH lR).more BH.size
 clear Ar Am EJ BH KY;obtain ⟨e0, e1, e2⟩ := Hz.d3;have g1 := BS.b1.cell 1;have g2 := BS.b1.cell 2;have g3 := BS.b1.cell 3;have f1 := BS.b1.frozen 1;have f2 := BS.b1.frozen 2;have f3 := BS.b1.frozen 3;go_upto_region 8 with (fail);clear g1 g2 g3 f1 f2 f3;have Ah : Hid (Bw w [(30, #[.slice An nn cn, .slice Ad nd cd]), (96, #[.slice A2 n c2, .int .i64 co, .slice A mA cA, .slice Ap np cp, .bool false]), (43, #[.int .i64 3, .int .i64 d, .int .i64 no, .int .i64 p, .int .i64 q]), (96, #[.slice none 0 0, .int .i64 0, .slice none 0 0, .slice none 0 0, .bool false])] (((V2.setCell ⟨w.heap.size + 1, 1, none⟩ (.int .i64 co)).setCell ⟨w.heap.size + 1, 2, none⟩ (.slice A mA cA)).setCell ⟨w.heap.size + 1, 3, none⟩ (.slice Ap np cp))) := ((BS.set 1 1 (.int .i64 co) rfl).set 1 2 (.slice A mA cA) rfl).set 1 3 (.slice Ap np cp) rfl
 have CX : Hid (∀ {z0 n0 c0 : Nat} {A0 : Option Addr} {x0 : List Value}, Sl V2 V2.heap.size z0 A0 n0 c0 x0 → (∀ b off, A0 = some ⟨b, off, none⟩ → w.heap.size + 4 ≤ b) → Sl (((V2.setCell ⟨w.heap.size + 1, 1, none⟩ (.int .i64 co)).setCell ⟨w.heap.size + 1, 2, none⟩ (.slice A mA cA)).setCell ⟨w.heap.size + 1, 3, none⟩ (.slice Ap np cp)) (((V2.setCell ⟨w.heap.size + 1, 1, none⟩ (.int .i64 co)).setCell ⟨w.heap.size + 1, 2, none⟩ (.slice A mA cA)).setCell ⟨w.heap.size + 1, 3, none⟩ (.slice Ap np cp)).heap.size z0 A0 n0 c0 x0) := fun h hf => ((((h.ne (i := 1) (fun b off e => by have := hf b off e; omega)).ne (i := 2) (fun b off e => by have := hf b off e; omega)).ne (i := 3) (fun b off e => by have := hf b off e; omega))).more (by simp [World.setCell])
 clear e0 e1 e2;have Hr := iD (CX II);have AO := iD (CX EW Jw);have NN : Hid ((∀ b off, A2 = some ⟨b, off, none⟩ → w.heap.size + 4 ≤ b) → Sl (((V2.setCell ⟨w.heap.size + 1, 1, none⟩ (.int .i64 co)).setCell ⟨w.heap.size + 1, 2, none⟩ (.slice A mA cA)).setCell ⟨w.heap.size + 1, 3, none⟩ (.slice Ap np cp)) (((V2.setCell ⟨w.heap.size + 1, 1, none⟩ (.int .i64 co)).setCell ⟨w.heap.size + 1, 2, none⟩ (.slice A mA cA)).setCell ⟨w.heap.size + 1, 3, none⟩ (.slice Ap np cp)).heap.size 1 A2 n c2 (zE O.t.s)) := fun hf => CX (Ic hf) hf
 clear BS Hz II CX EW Ic;generalize World.setCell (World.setCell (World.setCell V2 _ _) _ _) _ _ = X at *;obtain ⟨g0, g1, g2, g3, g4⟩ := Ah.b1.d5;have d0 := Ah.b3.cell 0;have y0 := Ah.b3.frozen 0;have d1 := Ah.b3.cell 1;have y1 := Ah.b3.frozen 1;have d2 := Ah.b3.cell 2;have y2 := Ah.b3.frozen 2;have d3 := Ah.b3.cell 3;have y3 := Ah.b3.frozen 3;have d4 := Ah.b3.cell 4;have y4 := Ah.b3.frozen 4;refine fv (fun W' => W'.cell? ⟨w.heap.size + 1, 0, none⟩ = some (.slice A2 n c2) ∧ W'.cell? ⟨w.heap.size + 1, 1, none⟩ = some (.int .i64 co) ∧ W'.cell? ⟨w.heap.size + 1, 2, none⟩ = some (.slice A mA cA) ∧ W'.cell? ⟨w.heap.size + 1, 3, none⟩ = some (.slice Ap np cp) ∧ W'.cell? ⟨w.heap.size + 1, 4, none⟩ = some (.bool false)) [5] ?_ fun AA => ?_
 ·exact ⟨g0, g1, g2, g3, g4⟩
 try dsimp only at AA
 refine tk 0 41 (mf 6 1) AA ?_;refine tk 1 42 (mf 6 2) AA ?_;refine tk 2 43 (mf 6 3) AA ?_;refine tk 3 6 (mf 6 4) AA ?_;have HE := iD (Ah.st5 (.slice A2 n c2) (.int .i64 co) (.slice A mA cA) (.slice Ap np cp) (.bool false)).drew; unfold st5 at HE;refine tb 4 (mf 6 5) fun K hK => ?_
 go_simp
 refine hK _ _ (fun _ => ⟨(HE.b1.cell 0), (HE.b1.cell 1), (HE.b1.cell 2), (HE.b1.cell 3), (HE.b1.cell 4)⟩) fun p => (fun AA => ?_) (p rfl)
 clear p hK K;(try dsimp only at AA);refine tb 5 (mf 6 6) fun K hK => ?_
 go_simp
 refine hK _ _ (fun h => by cases h) (fun _ => ?_)
 try clear AA
 clear hK K;refine tK ?_;have CZ : Hid (xF ((st5 X (w.heap.size + 3) (.slice A2 n c2) (.int .i64 co) (.slice A mA cA) (.slice Ap np cp) (.bool false))).drew A5 A2 A Ap (1 + n1) c5 n c2 mA cA np cp ⟨4 :: O.h, ⟨O.t.s, L, pr⟩, true⟩) := ⟨sw AO (fun b off e => by have := Jw b off e; omega), uI Jy HE.l (fun hf => sw (NN hf) (fun b off e => by have := hf b off e; omega)), uI OB HE.l (fun hf => sw (Hr hf) (fun b off e => by have := hf b off e; omega)), (HH.below HE.l).hp⟩;unfold st5 at CZ;clear d0 d1 d2 d3 d4 y0 y1 y2 y3 y4 g0 g1 g2 g3 g4
 go_wp2_with fail
 generalize World.drew (World.setCell (World.setCell (World.setCell (World.setCell (World.setCell X _ _) _ _) _ _) _ _) _ _) = z at *;obtain ⟨q0, q1, q2, q3, q4⟩ := HE.b3.d5;exact bodyPost_ret (v := .tuple #[.slice A5 (1 + n1) c5, .agg #[.slice A2 n c2, .int .i64 co, .slice A mA cA, .slice Ap np cp, .bool false], .int .i64 0]) (by simp [results, results113, go_sem, q0, q1, q2, q3, q4]) rfl ⟨_, _, _, _, _, _, _, _, _, _, _, _, by rw [HT.out], by rw [HT.out]; exact fun _ => CZ, ⟨.inr (fun b off e => by have := Jw b off e; omega), Si, DV, .inl ⟨rfl, rfl⟩⟩, HE.l⟩
end Go.Proofs.YtkkobemhbicjgaaGreatDoor
