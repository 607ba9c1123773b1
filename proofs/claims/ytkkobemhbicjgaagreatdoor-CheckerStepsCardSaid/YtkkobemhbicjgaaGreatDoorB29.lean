import Derived.Test.YtkkobemhbicjgaaGreatDoorB28
import Derived.Test.YtkkobemhbicjgaaGreatDoorB21
import Derived.Test.YtkkobemhbicjgaaGreatDoorIns
import Derived.Lib.EndianMore
set_option maxRecDepth 100000
set_option maxHeartbeats 8000000
namespace Go.Proofs.YtkkobemhbicjgaaGreatDoor
open Go.RowKit Tryz
variable {c i n nd nn size : Nat} {u x y z : Value} {ns : List Nd} {ds : List Dv} {ls : List Lk} {W w wr wr' : World} {gr nt st : Array Value} {xs : List Value} {A : Option Addr} {d : Int}
def xJ (ns : List Nd) (ds : List Dv) (co : Int) (ls : List Lk) (pr : List Int) : Int :=
 if co < 0 ∨ 7 < co then 5 else if zJ ns ds ls ≠ 0 then zJ ns ds ls else if yr ns.length (-1) pr = false then 7 else 0
def ws (pr : List Int) (v : Int) : List Int := if v ∈ pr then pr else pr.takeWhile (fun x => decide (x < v)) ++ v :: pr.dropWhile (fun x => decide (x < v))
def tB (ds : List Dv) (k d : Int) : Bool := decide (k = 2) && !decide ((ds[d.toNat]?.map Dv.kind) = some 4)
structure Sm where
 s : List Int
 ls : List Lk
 pr : List Int
structure So where
 h : List Int
 t : Sm
 ok : Bool
structure Fn where
 st : Int
 hz : Int
deriving DecidableEq
def Fn.cells (f : Fn) : List Value := [.int .i64 f.st, .int .i64 f.hz]
def yD (i : Nat) (h : List Int) : List Fn := h.map fun z => ⟨i, z⟩
theorem vc : ∀ {xs : List Sp}, zz nn nd xs = 0 → ∀ x ∈ xs, zc nn nd x = 0
 | [], _, x, hx => by cases hx
 | y :: r, h, x, hx => by
  unfold zz at h;split at h
  ·next h1 => exact absurd h h1
  next h1 =>
  rcases List.mem_cons.mp hx with rfl | hx
  ·simpa using h1
  ·exact vc h x hx
theorem wN {x : Sp} (h : zc nn nd x = 0) : (1 ≤ x.kind ∧ x.kind ≤ 6) ∧ (x.kind ≠ 5 → 0 ≤ x.dev ∧ x.dev < nd) ∧ (x.kind = 5 → 0 ≤ x.node ∧ x.node < nn) ∧ (x.kind = 3 ∨ x.kind = 6 → x.pos = 1 ∨ x.pos = 2) ∧ (x.kind = 3 ∨ x.kind = 4 → 0 ≤ x.key ∧ x.key ≤ 65536) := by
 unfold zc at h;split at h
 ·cases h
 next h1 =>
 split at h
 ·cases h
 next h2 =>
 split at h
 ·cases h
 next h3 =>
 split at h
 ·cases h
 next h4 =>
 split at h
 ·cases h
 next h5 =>
 have e1 : x.posB = true ↔ x.kind = 3 ∨ x.kind = 6 := by unfold Sp.posB; simp
 have e2 : x.keyB = true ↔ x.kind = 3 ∨ x.kind = 4 := by unfold Sp.keyB; simp
 rw [e1] at h4;rw [e2] at h5;refine ⟨by omega, fun hk => by omega, fun hk => by omega, fun hk => ?_, fun hk => by omega⟩;by_cases hp : x.pos = 1
 ·exact .inl hp
 ·by_cases Pz : x.pos = 2
  ·exact .inr Pz
  ·exact absurd ⟨hk, hp, Pz⟩ h4
theorem tS (u : Int) : ∀ (p : Int) (l : List Int), yr u p l = true ↔ (∀ x ∈ l, p < x ∧ x < u) ∧ l.Pairwise (· < ·)
 | p, [] => by simp [yr]
 | p, x :: l => by
  rw [yr];simp only [Bool.and_eq_true, decide_eq_true_eq, List.pairwise_cons, List.mem_cons, forall_eq_or_imp];rw [tS u x l]
  constructor
  ·rintro ⟨⟨h1, h2⟩, h3, h4⟩;exact ⟨⟨⟨h1, h2⟩, fun y hy => ⟨by have := (h3 y hy).1; omega, (h3 y hy).2⟩⟩, fun y hy => (h3 y hy).1, h4⟩
  ·rintro ⟨⟨h1, h2⟩, h3, h4⟩;exact ⟨⟨h1.1, h1.2⟩, fun y hy => ⟨h3 y hy, (h2 y hy).2⟩, h4⟩
theorem oz : ∀ (l : List Int) (p : Int), (∀ x ∈ l, p < x) → l.Pairwise (· < ·) → ∀ u, (∀ x ∈ l, x < u) → p < u → (l.length : Int) < u - p
 | [], p, _, _, u, _, h => by simp; omega
 | x :: l, p, h1, h2, u, h3, h4 => by
  obtain ⟨h5, h6⟩ := List.pairwise_cons.mp h2;have hx := h1 x List.mem_cons_self;have := oz l x h5 h6 u (fun y hy => h3 y (List.mem_cons_of_mem _ hy)) (h3 x List.mem_cons_self);rw [List.length_cons]; push_cast; omega
theorem rV {u : Nat} {l : List Int} (h : yr u (-1) l = true) : l.length ≤ u := by
 obtain ⟨h1, h2⟩ := (tS u (-1) l).mp h;have := oz l (-1) (fun x hx => (h1 x hx).1) h2 u (fun x hx => (h1 x hx).2) (by omega);omega
theorem ku {u v : Int} {pr : List Int} (h : yr u (-1) pr = true) (h0 : 0 ≤ v) (h1 : v < u) : yr u (-1) (ws pr v) = true := by
 unfold ws;split
 ·exact h
 next hn =>
 rw [tS] at h ⊢;obtain ⟨h2, h3⟩ := h;have hsp := List.takeWhile_append_dropWhile (p := fun x => decide (x < v)) (l := pr)
 have ht : ∀ x ∈ pr.takeWhile (fun x => decide (x < v)), x < v := fun x hx => by
  have := List.all_takeWhile (p := fun x => decide (x < v)) (l := pr);rw [List.all_eq_true] at this;simpa using this x hx
 have hd : ∀ x ∈ pr.dropWhile (fun x => decide (x < v)), v < x := by
  rw [← hsp] at h3;rw [List.pairwise_append] at h3;rcases e : pr.dropWhile (fun x => decide (x < v)) with _ | ⟨y, r⟩
  ·intro x hx; cases hx
  ·rw [e] at h3
   have hy : ¬ y < v := by
    have := List.head_dropWhile_not (p := fun x => decide (x < v)) (l := pr) (by rw [e]; simp);simp only [e, List.head_cons, decide_eq_false_iff_not] at this;exact this
   have Ar : y ≠ v := fun e2 => hn (by rw [← hsp, e, e2]; simp)
   intro x hx;rcases List.mem_cons.mp hx with rfl | hx
   ·omega
   ·have := (List.pairwise_cons.mp h3.2.1).1 x hx; omega
 have hm : ∀ x, x ∈ pr.takeWhile (fun x => decide (x < v)) ∨ x ∈ pr.dropWhile (fun x => decide (x < v)) → x ∈ pr := fun x hx => by rw [← hsp]; exact List.mem_append.mpr hx
 refine ⟨fun x hx => ?_, ?_⟩
 ·rcases List.mem_append.mp hx with hx | hx
  ·exact h2 x (hm x (.inl hx))
  ·rcases List.mem_cons.mp hx with rfl | hx
   ·omega
   ·exact h2 x (hm x (.inr hx))
 ·rw [← hsp, List.pairwise_append] at h3;rw [List.pairwise_append];refine ⟨h3.1, List.pairwise_cons.mpr ⟨hd, h3.2.1⟩, fun a ha b hb => ?_⟩;rcases List.mem_cons.mp hb with rfl | hb
  ·exact ht a ha
  ·have := ht a ha; have := hd b hb; omega
theorem tM (hc : zR ns ds = 0) (h : xz ds ls) : zJ ns ds ls = 0 := by
 unfold zJ;rw [if_neg (by simp [hc])];rw [if_neg (by have := h.1; omega)];exact hI h
theorem add_zero {k : Lk} (h : zh ns ds ls k = 0) : xz ds (ww k ls) := by
 unfold zh at h;split at h
 ·next h1 => exact absurd h h1
 next h1 =>
 split at h
 ·next h2 => exact absurd h h2
 next h2 =>
 split at h
 ·cases h
 next h3 =>
 split at h
 ·cases h
 next h4 =>
 split at h
 ·cases h
 next h5 =>
 have hg := yw (by simpa using h1);exact rp hg (by simpa using h2) (by simpa using h3) (by simpa using h4) (by have := hg.1; omega)
theorem jn (A : Option Addr) (n c B : Nat) (l : List Int) (u : Int) (w : World) (hs : Sl w B 1 A n c (zE l)) :
 Calls prog 108 #[.slice A n c, .int .i64 u] w fun e w' => e = .returned (.bool (yr u (-1) l)) ∧ w = w' := by
 have HC := iD (mq A n c B l u w hs)
 go_enter func108, ntmps108
 go_wp2_with fail
 refine HC.mono ?_;rintro e w1 ⟨rfl, rfl⟩
 go_wp2_with fail
 go_ret;exact ⟨rfl, rfl⟩
structure UJ (w : World) (nt gr : Array Value) (W : World) : Prop where
 bl : bW w W
 bn : AJ W w.heap.size 30 nt
 bg : AJ W (w.heap.size + 1) 37 gr
theorem UJ.new (w : World) (nt gr : Array Value) : UJ w nt gr ((w.alloc (.cells nt 30)).alloc (.cells gr 37)) :=
 ⟨((Below.refl _ _).alloc lR _).alloc (by simp) _, (AJ.new _ _ _).alloc _, by have := AJ.new (w.alloc (.cells nt 30)) 37 gr; simpa using this⟩
theorem UJ.later {W' : World} (h : UJ w nt gr W) (hb : bW W W') : UJ w nt gr W' := ⟨h.bl.trans (hb.mono h.bl.size), h.bn.below hb h.bn.lt, h.bg.below hb h.bg.lt⟩
structure UI (w : World) (nt gr pg : Array Value) (W : World) : Prop where
 bl : bW w W
 bn : AJ W w.heap.size 30 nt
 bg : AJ W (w.heap.size + 1) 37 gr
 bp : AJ W (w.heap.size + 2) 41 pg
theorem UI.new (w : World) (nt gr pg : Array Value) : UI w nt gr pg (((w.alloc (.cells nt 30)).alloc (.cells gr 37)).alloc (.cells pg 41)) :=
 ⟨(((Below.refl _ _).alloc lR _).alloc (by simp) _).alloc (by simp; omega) _, ((AJ.new _ _ _).alloc _).alloc _, by have := (AJ.new (w.alloc (.cells nt 30)) 37 gr).alloc (.cells pg 41); simpa using this,
  by have := AJ.new ((w.alloc (.cells nt 30)).alloc (.cells gr 37)) 41 pg; simpa using this⟩
theorem UI.later {W' : World} {pg : Array Value} (h : UI w nt gr pg W) (hb : bW W W') : UI w nt gr pg W' := ⟨h.bl.trans (hb.mono h.bl.size), h.bn.below hb h.bn.lt, h.bg.below hb h.bg.lt, h.bp.below hb h.bp.lt⟩
structure sr (w : World) (An Ad As Al Ap Ax : Option Addr) (nn cn nd cd n c nl cl np cp nx cx : Nat) (ns : List Nd) (ds : List Dv) (s : List Int) (ls : List Lk) (pr : List Int) (nm : ByteArray) (xs : List Sp) : Prop where
 h : yc w An Ad As Al Ap nn cn nd cd n c nl cl np cp ns ds s ls pr
 x : BI w 5 Ax nx cx (xs.flatMap Sp.cells)
 m : nm.size ≤ 9223372036854775807
theorem sr.below {An Ad As Al Ap Ax : Option Addr} {cn cd nl cl np cp nx cx : Nat} {s : List Int} {pr : List Int} {nm : ByteArray} {xs : List Sp} (h : sr w An Ad As Al Ap Ax nn cn nd cd n c nl cl np cp nx cx ns ds s ls pr nm xs) (hb : bW w W) : sr W An Ad As Al Ap Ax nn cn nd cd n c nl cl np cp nx cx ns ds s ls pr nm xs :=
 ⟨h.h.below hb, (h.x.below hb lR).more hb.size, h.m⟩
theorem lL (An Ad As Al Ap : Option Addr) (nn cn nd cd n c nl cl np cp : Nat) (ns : List Nd) (ds : List Dv) (s : List Int) (ls : List Lk) (pr : List Int) (co : Int) (w : World) (h : yc w An Ad As Al Ap nn cn nd cd n c nl cl np cp ns ds s ls pr) :
 Calls prog 73 #[.agg #[.slice An nn cn, .slice Ad nd cd], .agg #[.int .i64 co, .slice Al nl cl, .slice Ap np cp]] w fun e w' => e = .returned (.int .i64 (xJ ns ds co ls pr)) ∧ bW w w' := by
 have HH := iD h;have HB := iD (UJ.new w #[.slice An nn cn, .slice Ad nd cd] #[.int .i64 co, .slice Al nl cl, .slice Ap np cp]);have Da : ns.length = nn := h.hn.len (fun _ => rfl) (by decide);have Bq := h.hn.le;have HE : Hid (xJ ns ds co ls pr = if co < 0 ∨ 7 < co then 5 else if zJ ns ds ls ≠ 0 then zJ ns ds ls else if yr nn (-1) pr = false then 7 else 0) := by unfold Hid xJ; rw [Da]
 clear h;by_cases h1 : co < 0
 ·have q1 : decide (co < 0) = true := by simpa using h1
  have HR : Hid (xJ ns ds co ls pr = 5) := by unfold Hid; rw [HE.out, if_pos (.inl h1)]
  clear h1 HE HH
  go_enter func73, ntmps73
  go_wp2_with fail
  go_ret;exact ⟨zC (by rw [HR.out]), HB.bl⟩
 have q1 : decide (co < 0) = false := by simpa using h1
 by_cases h2 : 7 < co
 ·have q2 : decide (7 < co) = true := by simpa using h2
  have HR : Hid (xJ ns ds co ls pr = 5) := by unfold Hid; rw [HE.out, if_pos (.inr h2)]
  clear h1 h2 HE HH
  go_enter func73, ntmps73
  go_wp2_with fail
  go_ret;exact ⟨zC (by rw [HR.out]), HB.bl⟩
 have q2 : decide (7 < co) = false := by simpa using h2
 have Nc : Hid (xJ ns ds co ls pr = if zJ ns ds ls ≠ 0 then zJ ns ds ls else if yr nn (-1) pr = false then 7 else 0) := by unfold Hid; rw [HE.out, if_neg (by omega)]
 clear h1 h2 HE
 go_enter func73, ntmps73
 go_upto_region 3 with (fail);clear q1 q2;generalize World.alloc (World.alloc w _) _ = W at *;have HM := iD (HH.below HB.bl);have HC := iD (uw An Ad Al nn cn nd cd nl cl W.heap.size W.heap.size W.heap.size ns ds ls W HM.la HM.hn HM.hd HM.hl lR lR lR HM.sn HM.sd);obtain ⟨k0, k1⟩ := HB.bn.d2;have g1 := HB.bg.c1
 go_wp2_with fail
 clear k0 k1 g1;refine HC.mono ?_;rintro e w1 ⟨rfl, AV⟩;have AQ := iD (HB.later AV);have Fj := iD (HM.below AV);clear AV HB HM HC;by_cases hc : zJ ns ds ls = 0; rotate_left
 ·have q1 : (zJ ns ds ls != 0) = true := by simpa using hc
  have HR : Hid (xJ ns ds co ls pr = zJ ns ds ls) := by unfold Hid; rw [Nc.out, if_pos hc]
  clear hc
  go_wp2_with fail
  go_ret;exact ⟨zC (by rw [HR.out]), AQ.bl⟩
 have Eu : Hid (xJ ns ds co ls pr = if yr nn (-1) pr = false then 7 else 0) := by unfold Hid; rw [Nc.out, if_neg (by simp [hc])]
 rw [hc];clear hc Nc;have k0 := AQ.bn.c0;have g2 := AQ.bg.c2;have HZ := iD (jn Ap np cp w1.heap.size pr nn w1 Fj.hp)
 go_wp2_with fail
 clear k0 g2;refine HZ.mono ?_;rintro e w2 ⟨rfl, hw⟩;have AZ : Below w1.heap.size w1 w2 := by rw [← hw]; exact Below.refl _ _
 clear hw;have Ai := iD (AQ.later AZ);clear AZ AQ Fj HZ;rcases hr : yr nn (-1) pr with _ | _
 ·have HR : Hid (xJ ns ds co ls pr = 7) := by unfold Hid; rw [Eu.out, if_pos hr]
  clear hr
  go_wp2_with fail
  go_ret;exact ⟨zC (by rw [HR.out]), Ai.bl⟩
 ·have HR : Hid (xJ ns ds co ls pr = 0) := by unfold Hid; rw [Eu.out, if_neg (by simp [hr])]
  clear hr
  go_wp2_with fail
  go_ret;exact ⟨zC (by rw [HR.out]), Ai.bl⟩
theorem vh {base x : Nat} {e : TypeId} (h : w.ownsRow base e size (.slice A n c) n xs) (hx : x < base) : (w.setCell ⟨x, i, none⟩ u).ownsRow base e size (.slice A n c) n xs :=
 h.kept (zg _ _ _) (zb fun b e => by have := (h.lt b e).1; simp; omega)
def gS (w : World) (nl np : Nat) (co : Int) (ls : List Lk) (pr : List Int) (e : Ending) (w' : World) : Prop := ∃ (A1 A2 : Option Addr) (c1 c2 : Nat), e = .returned (.agg #[.int .i64 co, .slice A1 nl c1, .slice A2 np c2]) ∧ Hid (zk w' w.heap.size A1 nl c1 ls) ∧ Hid (zL w' w.heap.size A2 np c2 pr) ∧ Hid (bW w w')
structure Pp (w : World) (cf : Array Value) (wr : World) : Prop where
 b0 : AJ wr w.heap.size 37 cf
 b1 : AJ wr (w.heap.size + 1) 37 #[.int .i64 0, .slice none 0 0, .slice none 0 0]
 bl : bW w wr
theorem Pp.new (w : World) (cf : Array Value) : Pp w cf ((w.alloc (.cells cf 37)).alloc (.cells #[.int .i64 0, .slice none 0 0, .slice none 0 0] 37)) :=
 ⟨(AJ.new w _ _).alloc _, by have := AJ.new (w.alloc (.cells cf 37)) 37 #[.int .i64 0, .slice none 0 0, .slice none 0 0]; simpa using this, ((Below.refl _ _).alloc lR _).alloc (by simp) _⟩
theorem Pp.later {cf : Array Value} (h : Pp w cf wr) (hb : bW wr wr') : Pp w cf wr' := ⟨h.b0.below hb h.b0.lt, h.b1.below hb h.b1.lt, h.bl.trans (hb.mono h.bl.size)⟩
theorem Pp.cells (h : Pp w #[x, y, z] wr) : wr.cell? ⟨w.heap.size, 0, none⟩ = some x ∧ wr.cell? ⟨w.heap.size, 1, none⟩ = some y ∧ wr.cell? ⟨w.heap.size, 2, none⟩ = some z := ⟨h.b0.cell 0, h.b0.cell 1, h.b0.cell 2⟩
theorem wn (Al Ap : Option Addr) (nl cl np cp B : Nat) (co : Int) (ls : List Lk) (pr : List Int) (w : World) (hl : Sl w B 3 Al nl cl (ls.flatMap Lk.cells)) (hp : Sl w B 1 Ap np cp (zE pr)) (hB : B ≤ w.heap.size) (Hg : nl ≤ 1000000) (TQ : np ≤ 1000000) :
 Calls prog 48 #[.agg #[.int .i64 co, .slice Al nl cl, .slice Ap np cp]] w (gS w nl np co ls pr) := by
 have Kw : Hid (ls.length = nl) := hl.len (fun _ => rfl) (by decide);have OH : Hid (pr.length = np) := hp.len (fun _ => rfl) (by decide);have HB := iD (Pp.new w #[.int .i64 co, .slice Al nl cl, .slice Ap np cp]);have HL := iD hl;have HP := iD hp;clear hl hp
 go_enter func48, ntmps48
 go_upto_region 1 with (fail);generalize World.alloc (World.alloc w _) _ = W at *;have CB := iD (HB.later (Below.refl _ _).drew);have OQ := CB.bl.size;have JD := iD (HL.below CB.bl hB);have AK := iD (HP.below CB.bl hB);refine fv (fun W' => W'.cell? ⟨w.heap.size, 0, none⟩ = some (.int .i64 co) ∧ W'.cell? ⟨w.heap.size, 1, none⟩ = some (.slice Al nl cl) ∧ W'.cell? ⟨w.heap.size, 2, none⟩ = some (.slice Ap np cp)) [9] ?_ fun AA => ?_
 ·exact HB.cells
 try dsimp only at AA
 refine tk 0 3 (mf 10 1) AA ?_;refine tk 1 4 (mf 10 2) AA ?_;refine tk 2 5 (mf 10 3) AA ?_;refine tk 3 6 (mf 10 4) AA ?_;refine tk 5 8 (ma 10 47) AA ?_;refine tk 6 9 (ma 10 111) AA ?_;refine tb 4 (mf 10 7) fun K hK => ?_
 (go_simp; refine (vI Al nl cl _ ls W.drew JD (by omega) Hg).mono ?_; rintro e w1 ⟨A1, c1, rfl, Hq, AV⟩; rw [Kw.out] at Hq ⊢; have Lg := iD AV.out; clear AV; go_simp)
 refine hK _ _ (fun _ => (CB.later Lg).cells) fun p => (fun AA => ?_) (p rfl)
 clear p hK K;(try dsimp only at AA);have AQ := iD (CB.later Lg);have DY := iD (World.ownsRow.mono Hq lR);clear Hq;refine tb 7 (mf 10 8) fun K hK => ?_
 (go_simp; refine (yo Ap np cp _ pr w1 (AK.below Lg (by omega)) (by have := Lg.size; omega) TQ).mono ?_; rintro e w2 ⟨A2, c2, rfl, Dc, AZ⟩; rw [OH.out] at Dc ⊢; have Nf := iD AZ.out; clear AZ; go_simp)
 refine hK _ _ (fun _ => (AQ.later Nf).cells) fun p => (fun AA => ?_) (p rfl)
 clear p hK K;(try dsimp only at AA);have Ai := iD (AQ.later Nf);have Vy := iD (zI DY Nf);have Ay := iD (World.ownsRow.mono Dc Lg.size);obtain ⟨b0, b1, b2⟩ := Ai.cells; have z0 := Ai.b1.frozen 0; have z1 := Ai.b1.frozen 1; have z2 := Ai.b1.frozen 2; have d0 := Ai.b1.cell 0; have d1 := Ai.b1.cell 1; have d2 := Ai.b1.cell 2;clear Dc;refine tk 8 11 (mf 10 9) AA ?_;refine tb 9 (mf 10 10) fun K hK => ?_
 go_simp
 refine hK _ _ (fun h => by cases h) (fun _ => ?_)
 try clear AA
 clear hK K;refine tK ?_;have HE : Hid (Below w.heap.size w (((w2.setCell ⟨w.heap.size + 1, 0, none⟩ (.int .i64 co)).setCell ⟨w.heap.size + 1, 1, none⟩ (.slice A1 nl c1)).setCell ⟨w.heap.size + 1, 2, none⟩ (.slice A2 np c2))) := ((Ai.bl.setCell (by simp) _).setCell (by simp) _).setCell (by simp) _;have EY : Hid (AJ (((w2.setCell ⟨w.heap.size + 1, 0, none⟩ (.int .i64 co)).setCell ⟨w.heap.size + 1, 1, none⟩ (.slice A1 nl c1)).setCell ⟨w.heap.size + 1, 2, none⟩ (.slice A2 np c2)) (w.heap.size + 1) 37 #[.int .i64 co, .slice A1 nl c1, .slice A2 np c2]) := ((Ai.b1.set 0 _).set 1 _).set 2 _;have CW : w.heap.size + 1 < W.heap.size := HB.b1.lt;have Er := iD (vh (x := w.heap.size + 1) (i := 2) (u := .slice A2 np c2) (vh (x := w.heap.size + 1) (i := 1) (u := .slice A1 nl c1) (vh (x := w.heap.size + 1) (i := 0) (u := .int .i64 co) Vy CW) CW) CW)
 have FJ := iD (vh (x := w.heap.size + 1) (i := 2) (u := .slice A2 np c2) (vh (x := w.heap.size + 1) (i := 1) (u := .slice A1 nl c1) (vh (x := w.heap.size + 1) (i := 0) (u := .int .i64 co) Ay CW) CW) CW);clear z0 z1 z2 d0 d1 d2 b0 b1 b2 Vy Ay Ai AQ;generalize World.setCell (World.setCell (World.setCell w2 _ _) _ _) _ _ = x at *
 go_wp2_with fail
 obtain ⟨q0, q1, q2⟩ := EY.d3;exact bodyPost_ret (v := .agg #[.int .i64 co, .slice A1 nl c1, .slice A2 np c2]) (by simp [results, results48, go_sem, q0, q1, q2]) rfl ⟨A1, A2, c1, c2, rfl, Er.mono (by omega), FJ.mono (by omega), HE⟩
theorem sE (Al Ap : Option Addr) (nl cl np cp B : Nat) (co : Int) (ls : List Lk) (pr : List Int) (w : World) (hl : Sl w B 3 Al nl cl (ls.flatMap Lk.cells)) (hp : Sl w B 1 Ap np cp (zE pr)) (hB : B ≤ w.heap.size) (Hg : nl ≤ 1000000) (TQ : np ≤ 1000000) :
 Calls prog 36 #[.agg #[.int .i64 co, .slice Al nl cl, .slice Ap np cp]] w (gS w nl np co ls pr) := by
 have Kw : Hid (ls.length = nl) := hl.len (fun _ => rfl) (by decide);have OH : Hid (pr.length = np) := hp.len (fun _ => rfl) (by decide);have HB := iD (Pp.new w #[.int .i64 co, .slice Al nl cl, .slice Ap np cp]);have HL := iD hl;have HP := iD hp;clear hl hp
 go_enter func36, ntmps36
 go_upto_region 1 with (fail);generalize World.alloc (World.alloc w _) _ = W at *;have CB := iD (HB.later (Below.refl _ _).drew);have OQ := CB.bl.size;have JD := iD (HL.below CB.bl hB);have AK := iD (HP.below CB.bl hB);refine fv (fun W' => W'.cell? ⟨w.heap.size, 0, none⟩ = some (.int .i64 co) ∧ W'.cell? ⟨w.heap.size, 1, none⟩ = some (.slice Al nl cl) ∧ W'.cell? ⟨w.heap.size, 2, none⟩ = some (.slice Ap np cp)) [9] ?_ fun AA => ?_
 ·exact HB.cells
 try dsimp only at AA
 refine tk 0 3 (mf 10 1) AA ?_;refine tk 1 4 (mf 10 2) AA ?_;refine tk 2 5 (mf 10 3) AA ?_;refine tk 3 6 (mf 10 4) AA ?_;refine tk 5 8 (ma 10 47) AA ?_;refine tk 6 9 (ma 10 111) AA ?_;refine tb 4 (mf 10 7) fun K hK => ?_
 (refine zt (d := some 7) (by rfl) (by rfl) _ (.tmp 6) (by rfl) yb (by rfl) (World.ownsRow_nil _ W.drew.heap.size _ _) (by rfl) JD (yl _) (by omega) (by omega) (by simp) ?_; intro A1 c1 w1 EG Gc JX; simp only [Nat.zero_add, List.nil_append] at EG Gc JX ⊢; have Hq := iD EG; have Lg : Hid (Below W.drew.heap.size W.drew w1) := zY Gc; clear EG Gc JX)
 refine hK _ _ (fun _ => (CB.later Lg).cells) fun p => (fun AA => ?_) (p rfl)
 clear p hK K;(try dsimp only at AA);have AQ := iD (CB.later Lg);have DY := iD (World.ownsRow.mono Hq lR);clear Hq;refine tb 7 (mf 10 8) fun K hK => ?_
 (refine zt (d := some 10) (by rfl) (by rfl) _ (.tmp 9) (by rfl) yU (by rfl) (World.ownsRow_nil _ w1.heap.size _ _) (by rfl) (AK.below Lg (by omega)) (xI _) (by omega) (by omega) (by simp) ?_; intro A2 c2 w2 EF Gb LU; simp only [Nat.zero_add, List.nil_append] at EF Gb LU ⊢; have Dc := iD EF; have Nf : Hid (Below w1.heap.size w1 w2) := zY Gb; clear EF Gb LU)
 refine hK _ _ (fun _ => (AQ.later Nf).cells) fun p => (fun AA => ?_) (p rfl)
 clear p hK K;(try dsimp only at AA);have Ai := iD (AQ.later Nf);have Vy := iD (zI DY Nf);have Ay := iD (World.ownsRow.mono Dc Lg.size);obtain ⟨b0, b1, b2⟩ := Ai.cells; have z0 := Ai.b1.frozen 0; have z1 := Ai.b1.frozen 1; have z2 := Ai.b1.frozen 2; have d0 := Ai.b1.cell 0; have d1 := Ai.b1.cell 1; have d2 := Ai.b1.cell 2;clear Dc;refine tk 8 11 (mf 10 9) AA ?_;refine tb 9 (mf 10 10) fun K hK => ?_
 go_simp
 refine hK _ _ (fun h => by cases h) (fun _ => ?_)
 try clear AA
 clear hK K;refine tK ?_;have HE : Hid (Below w.heap.size w (((w2.setCell ⟨w.heap.size + 1, 0, none⟩ (.int .i64 co)).setCell ⟨w.heap.size + 1, 1, none⟩ (.slice A1 nl c1)).setCell ⟨w.heap.size + 1, 2, none⟩ (.slice A2 np c2))) := ((Ai.bl.setCell (by simp) _).setCell (by simp) _).setCell (by simp) _;have EY : Hid (AJ (((w2.setCell ⟨w.heap.size + 1, 0, none⟩ (.int .i64 co)).setCell ⟨w.heap.size + 1, 1, none⟩ (.slice A1 nl c1)).setCell ⟨w.heap.size + 1, 2, none⟩ (.slice A2 np c2)) (w.heap.size + 1) 37 #[.int .i64 co, .slice A1 nl c1, .slice A2 np c2]) := ((Ai.b1.set 0 _).set 1 _).set 2 _;have CW : w.heap.size + 1 < W.heap.size := HB.b1.lt;have Er := iD (vh (x := w.heap.size + 1) (i := 2) (u := .slice A2 np c2) (vh (x := w.heap.size + 1) (i := 1) (u := .slice A1 nl c1) (vh (x := w.heap.size + 1) (i := 0) (u := .int .i64 co) Vy CW) CW) CW)
 have FJ := iD (vh (x := w.heap.size + 1) (i := 2) (u := .slice A2 np c2) (vh (x := w.heap.size + 1) (i := 1) (u := .slice A1 nl c1) (vh (x := w.heap.size + 1) (i := 0) (u := .int .i64 co) Ay CW) CW) CW);clear z0 z1 z2 d0 d1 d2 b0 b1 b2 Vy Ay Ai AQ;generalize World.setCell (World.setCell (World.setCell w2 _ _) _ _) _ _ = x at *
 go_wp2_with fail
 obtain ⟨q0, q1, q2⟩ := EY.d3;exact bodyPost_ret (v := .agg #[.int .i64 co, .slice A1 nl c1, .slice A2 np c2]) (by simp [results, results36, go_sem, q0, q1, q2]) rfl ⟨A1, A2, c1, c2, rfl, Er.mono (by omega), FJ.mono (by omega), HE⟩
theorem fY : xC prog 161 77 2 16 := xC.mk' (z := .agg #[.int .i64 0, .int .i64 0]) underlying161 (by kernel_rfl) rfl (by decide)
structure TD (w : World) (cs zs : Array Value) (T : TypeId) (wr : World) : Prop where
 b0 : AJ wr w.heap.size 43 cs
 b1 : AJ wr (w.heap.size + 1) T zs
 bl : bW w wr
theorem TD.new (w : World) (cs zs : Array Value) (T : TypeId) : TD w cs zs T ((w.alloc (.cells cs 43)).alloc (.cells zs T)) :=
 ⟨(AJ.new w _ _).alloc _, by have := AJ.new (w.alloc (.cells cs 43)) T zs; simpa using this, ((Below.refl _ _).alloc lR _).alloc (by simp) _⟩
theorem TD.later {cs zs : Array Value} {T : TypeId} (h : TD w cs zs T wr) (hb : bW wr wr') : TD w cs zs T wr' := ⟨h.b0.below hb h.b0.lt, h.b1.below hb h.b1.lt, h.bl.trans (hb.mono h.bl.size)⟩
theorem rS (k d no p q : Int) (w : World) :
 Calls prog 58 #[.agg #[.int .i64 k, .int .i64 d, .int .i64 no, .int .i64 p, .int .i64 q]] w fun e w' => ∃ b : Nat, e = .returned (.agg #[.string ⟨#[80]⟩, .slice (some ⟨b, 0, none⟩) 1 1]) ∧ Hid (BI w' 5 (some ⟨b, 0, none⟩) 1 1 (Sp.cells ⟨k, d, no, p, q⟩)) ∧ Hid (bW w w') := by
 have HF := iD ((TD.new w #[.int .i64 k, .int .i64 d, .int .i64 no, .int .i64 p, .int .i64 q] #[.string ⟨#[80]⟩, .slice (some ⟨w.heap.size + 1 + 1, 0, none⟩) 1 1] 41).later ((Below.refl _ _).alloc lR (.cells #[.int .i64 k, .int .i64 d, .int .i64 no, .int .i64 p, .int .i64 q] 43)));have HS : Hid (Sl (((w.alloc (.cells #[.int .i64 k, .int .i64 d, .int .i64 no, .int .i64 p, .int .i64 q] 43)).alloc (.cells #[.string ⟨#[80]⟩, .slice (some ⟨w.heap.size + 1 + 1, 0, none⟩) 1 1] 41)).alloc (.cells #[.int .i64 k, .int .i64 d, .int .i64 no, .int .i64 p, .int .i64 q] 43)) (w.heap.size + 1 + 1 + 1) 5 (some ⟨w.heap.size + 1 + 1, 0, none⟩) 1 1 (Sp.cells ⟨k, d, no, p, q⟩)) := Sl.newest (by simp) rfl (by decide)
 have hz : (((w.alloc (.cells #[.int .i64 k, .int .i64 d, .int .i64 no, .int .i64 p, .int .i64 q] 43)).alloc (.cells #[.string ⟨#[80]⟩, .slice (some ⟨w.heap.size + 1 + 1, 0, none⟩) 1 1] 41)).alloc (.cells #[.int .i64 k, .int .i64 d, .int .i64 no, .int .i64 p, .int .i64 q] 43)).heap.size = w.heap.size + 1 + 1 + 1 := by simp
 go_enter func58, ntmps58
 go_wp2_with fail
 generalize World.alloc (World.alloc (World.alloc w _) _) _ = x at *;obtain ⟨q0, q1⟩ := HF.b1.d2;exact bodyPost_ret (v := .agg #[.string ⟨#[80]⟩, .slice (some ⟨w.heap.size + 1 + 1, 0, none⟩) 1 1]) (by simp [results, results58, go_sem, q0, q1]) rfl ⟨_, rfl, by unfold BI; rw [hz]; exact HS, HF.bl⟩
def OpR (w : World) (Ax : Option Addr) (nx cx : Nat) (d p : Int) (gk : Nat) (ov iv : Value) (wr : World) : Prop :=
 (iv = .int .i64 0 ∧ ov = .slice none 0 0 ∧ gk = 1 ∨ ∃ (c : Nat) (A : Option Addr), iv = .int .i64 1 ∧ ov = .slice A 1 c ∧ gk = 0 ∧ Hid (Sl wr wr.heap.size 2 A 1 c [.int .i64 d, .int .i64 p])) ∧ Hid (AJ wr w.heap.size 41 #[.string ⟨#[80]⟩, .slice Ax nx cx]) ∧ Hid (Below w.heap.size w wr)
theorem iP (Ax : Option Addr) (c1 : Nat) (k d no p q : Int) (w : World) (hk : k = 1 ∨ k = 2) (hx : BI w 5 Ax 1 c1 (Sp.cells ⟨k, d, no, p, q⟩)) :
 Calls prog 123 #[.agg #[.string ⟨#[80]⟩, .slice Ax 1 c1]] w fun e w' => ∃ (b o c : Nat), e = .returned (.slice (some ⟨b, o, none⟩) 1 c) ∧ w'.cell? ⟨b, o, none⟩ = some (.int .i64 d) ∧ w'.cell? ⟨b, o + 1, none⟩ = some (.int .i64 k) ∧ Hid (bW w w') := by
 have HX := iD hx;have HB := iD (AJ.new w 41 #[.string ⟨#[80]⟩, .slice Ax 1 c1]);have Bh := iD ((Below.refl w.heap.size w).alloc lR (.cells #[.string ⟨#[80]⟩, .slice Ax 1 c1] 41));clear hx
 go_enter func123, ntmps123
 go_upto_region 3 with (fail);generalize World.alloc w _ = W at *;refine vY [(2, 0), (0, 2), (0, 0), (0, 1), (2, 0), (0, 3), (21, 1), (0, 0)] 3 9 (1) (OpR w Ax 1 c1 d k) (by (try dsimp only [gt]); exact ⟨.inl ⟨rfl, rfl, rfl⟩, HB, Bh⟩) (by kernel_rfl) ?_;intro u1 p3 p9 gk wr a hrel ha J1 K1 EB ME;dsimp only [za, Go.Proofs.YtkkobemhbicjgaaGreatDoor.v2, Nat.reduceAdd] at ha;subst ha;clear HB Bh;obtain ⟨⟨rfl, rfl, rfl⟩ | ⟨c, A, rfl, rfl, rfl, HO⟩, HK, HL⟩ := hrel; rotate_left
 ·go_wp2_with fail
  go_ret;obtain ⟨b, o, hA, -, hc⟩ := HO.2.2.2.2 (by decide);subst hA;exact ⟨b, o, c, rfl, hc 0 _ rfl, hc 1 _ rfl, HL⟩
 obtain ⟨b, o, hA, hb, hc⟩ := HX.2.2.2.2 (by decide);subst hA;have Ty : ∀ j u, (Sp.cells ⟨k, d, no, p, q⟩)[j]? = some u → wr.cell? ⟨b, o + j, none⟩ = some u := fun j u h => (HL.cell (p := ⟨b, o + j, none⟩) hb).trans (hc j u h)
 have k1 := HK.c1;have c0 : wr.cell? ⟨b, o, none⟩ = some (.int .i64 k) := Ty 0 _ rfl;have c1' : wr.cell? ⟨b, o + 1, none⟩ = some (.int .i64 d) := Ty 1 _ rfl;have c2 : wr.cell? ⟨b, o + 2, none⟩ = some (.int .i64 no) := Ty 2 _ rfl;have c3 : wr.cell? ⟨b, o + 3, none⟩ = some (.int .i64 p) := Ty 3 _ rfl;have c4 : wr.cell? ⟨b, o + 4, none⟩ = some (.int .i64 q) := Ty 4 _ rfl;clear hc hb Ty;go_upto_region 5 with (fail);clear k1 c0 c1' c2 c3 c4;have HV := iD (AJ.new wr 43 #[.int .i64 k, .int .i64 d, .int .i64 no, .int .i64 p, .int .i64 q]);have SX := iD (HL.alloc HL.size (.cells #[.int .i64 k, .int .i64 d, .int .i64 no, .int .i64 p, .int .i64 q] 43));have El := iD (HK.alloc (.cells #[.int .i64 k, .int .i64 d, .int .i64 no, .int .i64 p, .int .i64 q] 43));clear HL HK;generalize World.alloc wr _ = V at *;obtain ⟨bq, FQ⟩ := eX wr.heap.size;rw [← FQ] at HV ⊢;clear FQ;obtain ⟨e0, e1⟩ := HV.d2
 rcases hk with rfl | rfl
 ·go_upto_region 7 with (fail)
  go_wp2_with (at_builtin; go_must (refine zM rfl (.tmp 17) (.tmp 21) rfl fY (by rfl) (World.ownsRow_nil _ (w.heap.size + 1) _ _) (by rfl) (Sl.newest (n := 1) rfl rfl (by decide)) (by simp [Value.oneCell']) (by decide) (by decide) (by have := SX.size; simp; omega) ?_; intro A1 c2 w6 BV BD Dw))
  have GV := iD (SX.alloc SX.size (.cells #[.int .i64 d, .int .i64 1] 77));have AL := iD (GV.trans ((zY BD).mono GV.size));have Jf := iD ((El.alloc (.cells #[.int .i64 d, .int .i64 1] 77)).below (zY BD) (by have := El.lt; simp; omega));have Jc : Hid (Sl w6 w6.heap.size 2 A1 1 c2 [.int .i64 d, .int .i64 1]) := Sl.of_own BV;clear BV BD Dw;refine Handed.intro (0) (by omega) (EB _ _ _ (oS.back 3 9 ?_ (by kernel_rfl)));dsimp only [gt];exact ⟨.inr ⟨c2, A1, rfl, rfl, rfl, Jc⟩, Jf, AL⟩
 ·go_upto_region 9 with (fail)
  go_wp2_with (at_builtin; go_must (refine zM rfl (.tmp 25) (.tmp 29) rfl fY (by rfl) (World.ownsRow_nil _ (w.heap.size + 1) _ _) (by rfl) (Sl.newest (n := 1) rfl rfl (by decide)) (by simp [Value.oneCell']) (by decide) (by decide) (by have := SX.size; simp; omega) ?_; intro A1 c2 w6 BV BD Dw))
  have GV := iD (SX.alloc SX.size (.cells #[.int .i64 d, .int .i64 2] 77));have AL := iD (GV.trans ((zY BD).mono GV.size));have Jf := iD ((El.alloc (.cells #[.int .i64 d, .int .i64 2] 77)).below (zY BD) (by have := El.lt; simp; omega));have Jc : Hid (Sl w6 w6.heap.size 2 A1 1 c2 [.int .i64 d, .int .i64 2]) := Sl.of_own BV;clear BV BD Dw;refine Handed.intro (0) (by omega) (EB _ _ _ (oS.back 3 9 ?_ (by kernel_rfl)));dsimp only [gt];exact ⟨.inr ⟨c2, A1, rfl, rfl, rfl, Jc⟩, Jf, AL⟩
theorem qV (k d no p q : Int) (w : World) (hk : k = 1 ∨ k = 2) :
 Calls prog 99 #[.agg #[.int .i64 k, .int .i64 d, .int .i64 no, .int .i64 p, .int .i64 q]] w fun e w' => e = .returned (.agg #[.int .i64 d, .int .i64 k]) ∧ bW w w' := by
 have HB := iD (TD.new w #[.int .i64 k, .int .i64 d, .int .i64 no, .int .i64 p, .int .i64 q] #[.int .i64 0, .int .i64 0] 77)
 go_enter func99, ntmps99
 go_upto_region 1 with (fail);generalize World.alloc (World.alloc w _) _ = W at *;obtain ⟨c0, c1, c2, c3, c4⟩ := HB.b0.d5
 go_wp2_with fail
 clear c0 c1 c2 c3 c4;refine (rS k d no p q W).mono ?_;rintro e w1 ⟨b, rfl, hs, AV⟩;have AQ := iD (HB.later AV);have HO := iD (iP (some ⟨b, 0, none⟩) 1 k d no p q w1 hk hs);clear hs AV HB
 go_wp2_with fail
 refine HO.mono ?_;rintro e w2 ⟨b2, o, c, rfl, h1, h2, AZ⟩;have Ai := iD (AQ.later AZ);clear AZ AQ HO;obtain ⟨f0, f1⟩ := Ai.b1.d2;obtain ⟨y0, y1⟩ := Ai.b1.e2;have HE : Hid (AJ ((w2.setCell ⟨w.heap.size + 1, 0, none⟩ (.int .i64 d)).setCell ⟨w.heap.size + 1, 1, none⟩ (.int .i64 k)) (w.heap.size + 1) 77 #[.int .i64 d, .int .i64 k]) := (Ai.b1.set 0 _).set 1 _;have Aq : Hid (Below w.heap.size w ((w2.setCell ⟨w.heap.size + 1, 0, none⟩ (.int .i64 d)).setCell ⟨w.heap.size + 1, 1, none⟩ (.int .i64 k))) := (Ai.bl.setCell (by simp) _).setCell (by simp) _
 go_wp2_with fail
 generalize World.setCell (World.setCell w2 _ _) _ _ = x at *;obtain ⟨q0, q1⟩ := HE.d2;exact bodyPost_ret (v := .agg #[.int .i64 d, .int .i64 k]) (by simp [results, results99, go_sem, q0, q1]) rfl ⟨rfl, Aq⟩
structure Qn (w : World) (nt gr op : Array Value) (wr : World) : Prop where
 b0 : AJ wr w.heap.size 30 nt
 b1 : AJ wr (w.heap.size + 1) 37 gr
 b2 : AJ wr (w.heap.size + 2) 77 op
 b3 : AJ wr (w.heap.size + 3) 37 #[.int .i64 0, .slice none 0 0, .slice none 0 0]
 bl : bW w wr
theorem eD (w : World) (T0 T1 T2 T3 : TypeId) (a b c d : Array Value) : AJ ((((w.alloc (.cells a T0)).alloc (.cells b T1)).alloc (.cells c T2)).alloc (.cells d T3)) w.heap.size T0 a ∧ AJ ((((w.alloc (.cells a T0)).alloc (.cells b T1)).alloc (.cells c T2)).alloc (.cells d T3)) (w.heap.size + 1) T1 b ∧ AJ ((((w.alloc (.cells a T0)).alloc (.cells b T1)).alloc (.cells c T2)).alloc (.cells d T3)) (w.heap.size + 2) T2 c ∧ AJ ((((w.alloc (.cells a T0)).alloc (.cells b T1)).alloc (.cells c T2)).alloc (.cells d T3)) (w.heap.size + 3) T3 d ∧ bW w ((((w.alloc (.cells a T0)).alloc (.cells b T1)).alloc (.cells c T2)).alloc (.cells d T3)) := by
 refine ⟨(((AJ.new w T0 a).alloc _).alloc _).alloc _, ?_, ?_, ?_, ((((Below.refl _ _).alloc lR _).alloc (by simp) _).alloc (by simp; omega) _).alloc (by simp; omega) _⟩
 ·have := ((AJ.new (w.alloc (.cells a T0)) T1 b).alloc (.cells c T2)).alloc (.cells d T3); simpa using this
 ·have := (AJ.new ((w.alloc (.cells a T0)).alloc (.cells b T1)) T2 c).alloc (.cells d T3); simpa using this
 ·have := AJ.new (((w.alloc (.cells a T0)).alloc (.cells b T1)).alloc (.cells c T2)) T3 d; simpa using this
theorem Qn.new (w : World) (nt gr op : Array Value) : Qn w nt gr op ((((w.alloc (.cells nt 30)).alloc (.cells gr 37)).alloc (.cells op 77)).alloc (.cells #[.int .i64 0, .slice none 0 0, .slice none 0 0] 37)) := by
 obtain ⟨h0, h1, h2, h3, h4⟩ := eD w 30 37 77 37 nt gr op #[.int .i64 0, .slice none 0 0, .slice none 0 0];exact ⟨h0, h1, h2, h3, h4⟩
theorem Qn.fin {op : Array Value} (h : Qn w nt #[x, y, z] op wr) : AJ (((wr.setCell ⟨w.heap.size + 3, 0, none⟩ x).setCell ⟨w.heap.size + 3, 1, none⟩ y).setCell ⟨w.heap.size + 3, 2, none⟩ z) (w.heap.size + 3) 37 #[x, y, z] ∧ bW w (((wr.setCell ⟨w.heap.size + 3, 0, none⟩ x).setCell ⟨w.heap.size + 3, 1, none⟩ y).setCell ⟨w.heap.size + 3, 2, none⟩ z) :=
 ⟨((h.b3.set 0 _).set 1 _).set 2 _, ((h.bl.setCell (by simp) _).setCell (by simp) _).setCell (by simp) _⟩
theorem Qn.cut {op : Array Value} (h : Qn w nt #[x, y, z] op wr) : Qn w nt #[x, y, u] op (wr.setCell ⟨w.heap.size + 1, 2, none⟩ u) :=
 ⟨h.b0.far (by simp) _, h.b1.set 2 _, h.b2.far (by simp) _, h.b3.far (by simp) _, h.bl.setCell (by simp) _⟩
theorem fF {x : Dv} (hx : ds[d.toNat]? = some x) (k : Int) : tB ds k d = (decide (k = 2) && !decide (x.kind = 4)) := by unfold tB; rw [hx]; simp
def fX (A : Option Addr) (n c : Nat) (b : Bool) : Value := if b then .slice none 0 0 else .slice A n c
theorem py (An Ad Al Ap : Option Addr) (nn cn nd cd nl cl np cp : Nat) (ds : List Dv) (co d k : Int) (w : World) (hd : BI w 5 Ad nd cd (ds.flatMap Dv.cells)) (hk : k = 1 ∨ k = 2) (h0 : 0 ≤ d) (h1 : d < nd) :
 Calls prog 101 #[.agg #[.slice An nn cn, .slice Ad nd cd], .agg #[.int .i64 co, .slice Al nl cl, .slice Ap np cp], .agg #[.int .i64 d, .int .i64 k]] w fun e w' => e = .returned (.agg #[.int .i64 co, .slice Al nl cl, fX Ap np cp (tB ds k d)]) ∧ bW w w' := by
 have HB := iD (Qn.new w #[.slice An nn cn, .slice Ad nd cd] #[.int .i64 co, .slice Al nl cl, .slice Ap np cp] #[.int .i64 d, .int .i64 k]);obtain ⟨i, rfl⟩ := Int.eq_ofNat_of_zero_le h0;obtain ⟨b, o, x, hA, hb, hx, hc⟩ := hd.at (fun _ => rfl) (by decide) (show i < nd by omega);subst hA;have Ee : Hid (tB ds k i = (decide (k = 2) && !decide (x.kind = 4))) := fF (by simpa using hx) k;have NY : Hid (w.cell? ⟨b, o + i * 5 + 1, none⟩ = some (.int .i64 x.kind)) := hc 1 _ rfl;clear hd hc hx
 go_enter func101, ntmps101
 go_upto_region 1 with (fail);generalize World.alloc (World.alloc (World.alloc (World.alloc w _) _) _) _ = W at *;rw [show w.heap.size + 1 + 1 = w.heap.size + 2 from rfl, show w.heap.size + 2 + 1 = w.heap.size + 3 from rfl];obtain ⟨p0, p1⟩ := HB.b2.d2;have k1 := HB.b0.c1;have kd : W.cell? ⟨b, o + i * 5 + 1, none⟩ = some (.int .i64 x.kind) := (HB.bl.cell (p := ⟨b, o + i * 5 + 1, none⟩) hb).trans NY.out;obtain ⟨g0, g1, g2⟩ := HB.b1.d3;rcases hk with rfl | rfl
 ·have HV : Hid (tB ds 1 i = false) := by unfold Hid; rw [Ee.out]; rfl
  obtain ⟨d0, d1, d2⟩ := HB.b3.d3;obtain ⟨y0, y1, y2⟩ := HB.b3.e3;have HE := iD (HB.fin)
  go_wp2_with fail
  generalize World.setCell (World.setCell (World.setCell W _ _) _ _) _ _ = z at *;obtain ⟨q0, q1, q2⟩ := HE.1.d3;exact bodyPost_ret (v := .agg #[.int .i64 co, .slice Al nl cl, .slice Ap np cp]) (by simp [results, results101, go_sem, q0, q1, q2]) rfl ⟨by rw [HV.out]; rfl, HE.2⟩
 by_cases h4 : x.kind = 4
 ·have HV : Hid (tB ds 2 i = false) := by unfold Hid; rw [Ee.out]; simp [h4]
  have q4 : (x.kind != 4) = false := by simp [h4]
  rw [h4] at kd;clear h4 q4;obtain ⟨d0, d1, d2⟩ := HB.b3.d3;obtain ⟨y0, y1, y2⟩ := HB.b3.e3;have HE := iD (HB.fin)
  go_wp2_with fail
  generalize World.setCell (World.setCell (World.setCell W _ _) _ _) _ _ = z at *;obtain ⟨q0, q1, q2⟩ := HE.1.d3;exact bodyPost_ret (v := .agg #[.int .i64 co, .slice Al nl cl, .slice Ap np cp]) (by simp [results, results101, go_sem, q0, q1, q2]) rfl ⟨by rw [HV.out]; rfl, HE.2⟩
 have HV : Hid (tB ds 2 i = true) := by unfold Hid; rw [Ee.out]; simp [h4]
 have q4 : (x.kind != 4) = true := by simpa using h4
 have y2 := HB.b1.frozen 2;have Ah := iD (HB.cut (u := .slice none 0 0));go_upto_region 3 with (fail);clear p0 p1 k1 kd g0 g1 g2 y2 q4 h4;generalize World.setCell W _ _ = X at *;obtain ⟨g0, g1, g2⟩ := Ah.b1.d3;obtain ⟨d0, d1, d2⟩ := Ah.b3.d3;obtain ⟨y0, y1, y2⟩ := Ah.b3.e3;have HE := iD (Ah.fin)
 go_wp2_with fail
 generalize World.setCell (World.setCell (World.setCell X _ _) _ _) _ _ = z at *;obtain ⟨q0, q1, q2⟩ := HE.1.d3;exact bodyPost_ret (v := .agg #[.int .i64 co, .slice Al nl cl, .slice none 0 0]) (by simp [results, results101, go_sem, q0, q1, q2]) rfl ⟨by rw [HV.out]; rfl, HE.2⟩
section
open Go.Lib (below_setCells_w)
theorem et3 : laysNm221_ren.t 3 = 3 := rfl
theorem uR (l : List Int) (j : Nat) : (zE l)[j]? = l[j]?.map (Value.int .i64) := by rw [yP, List.getElem?_map]
theorem mJ (A : Option Addr) (n c B : Nat) (st : List Int) (d : Int) (w : World) (hs : Sl w B 1 A n c (zE st)) (hn : n ≤ 1000000) (ho : st.Pairwise (· < ·)) :
 Calls prog 128 #[.slice A n c, .int .i64 d] w fun e w' => e = .returned (.tuple #[.int .i64 ((st.countP (· < d) : Nat) : Int), .bool (decide (d ∈ st))]) ∧ ∃ q, w' = w.drewN q := by
 have hl : st.length = n := hs.len (fun _ => rfl) (by decide);obtain ⟨-, Ip, -, AW, hc⟩ := hs;by_cases h0 : n = 0
 ·subst h0;obtain rfl : st = [] := List.eq_nil_of_length_eq_zero hl;refine (slices_BinarySearch_int_empty A c d w).mono ?_;rintro e w' ⟨rfl, rfl⟩;exact ⟨by simp, 0, rfl⟩
 ·obtain ⟨b, off, rfl, -, hcell⟩ := hc (by omega);have ht : st.take n = st := List.take_of_length_le (by omega);refine (slices_BinarySearch_int b off n c st d w (by omega) (by omega) (fun j hj => ?_) ?_).mono ?_
  ·refine hcell j _ ?_;rw [uR, List.getElem?_eq_getElem hj, List.getD_eq_getElem?_getD, List.getElem?_eq_getElem hj];rfl
  ·rw [ht]; exact ho.imp fun h => Int.le_of_lt h
  ·rw [ht];rintro e w' ⟨rfl, q, rfl⟩;exact ⟨by simp, q, rfl⟩
section
variable {w : World} {base n c i : Nat} {A : Option Addr} {st : List Int}
theorem gd (h : zL w base A n c st) : A = none ∧ n = 0 ∧ c = 0 ∨ ∃ (b : Nat) (cur : Array Value), A = some ⟨b, 0, none⟩ ∧ base ≤ b ∧ b < w.heap.size ∧ w.heap[b]? = some (.cells cur 3 (0, 0)) ∧ n ≤ c ∧ c ≤ 9223372036854775807 ∧ cur.size = c ∧ ∀ (j : Nat) (u : Value), (zE st)[j]? = some u → cur[j]? = some u := by
 have hl := h.lt;rcases h.2 with ⟨h0, hn⟩ | ⟨g, cap, cur, h0, hg, hh, h1, h2, h3, h4⟩
 ·injection h0 with e1 e2 e3;exact .inl ⟨e1, hn, e3⟩
 ·injection h0 with e1 e2 e3;subst e1 e3;refine .inr ⟨g, cur, rfl, hg, (hl g rfl).2, hh, h1, by simp [maxLen] at h2; exact h2, by omega, fun j u hu => ?_⟩;rw [← h4, List.getElem?_take] at hu;split at hu
  ·simpa using hu
  ·cases hu
end
theorem gn {st : List Int} (d : Int) (hi : i ≤ st.length) (j : Nat) : (st.take i ++ d :: st.drop i)[j]? = if j < i then st[j]? else if j = i then some d else st[j - 1]? := by
 have hl : (st.take i).length = i := by rw [List.length_take]; omega
 rcases Nat.lt_trichotomy j i with h | h | h
 ·rw [if_pos h, List.getElem?_append_left (by omega), List.getElem?_take, if_pos h]
 ·subst h; rw [if_neg (by omega), if_pos rfl, List.getElem?_append_right (by omega), hl, Nat.sub_self]; rfl
 ·rw [if_neg (by omega), if_neg (by omega), List.getElem?_append_right (by omega), hl, List.getElem?_cons, if_neg (by omega), List.getElem?_drop]
  congr 1; omega
def fQ (w : World) (base n : Nat) (L : List Int) (e : Ending) (w' : World) : Prop := ∃ (A' : Option Addr) (c' : Nat), e = .returned (.slice A' (n + 1) c') ∧ Hid (BI w' 1 A' (n + 1) c' (zE L)) ∧ Hid (∀ b off, A' = some ⟨b, off, none⟩ → base ≤ b) ∧ Hid (Below base w w')
theorem rm {w' : World} {b : Nat} {st : List Int} (hl : st.length = n) (hi : i ≤ n) (hc : n + 1 ≤ c) (hm : c ≤ 9223372036854775807) (hb : b < w'.heap.size)
 (h1 : ∀ j u, j < i → (zE st)[j]? = some u → w'.cell? ⟨b, j, none⟩ = some u) (h2 : w'.cell? ⟨b, i, none⟩ = some (.int .i64 d)) (h3 : ∀ j u, i < j → (zE st)[j - 1]? = some u → w'.cell? ⟨b, j, none⟩ = some u) :
 BI w' 1 (some ⟨b, 0, none⟩) (n + 1) c (zE (st.take i ++ d :: st.drop i)) := by
 refine ⟨by rw [vT]; simp; omega, hc, hm, (fun e => by cases e), fun _ => ⟨b, 0, rfl, hb, fun j u hu => ?_⟩⟩;rw [Nat.zero_add];rw [uR, gn d (by omega)] at hu;rcases Nat.lt_trichotomy j i with h | h | h
 ·rw [if_pos h] at hu; exact h1 j u h (by rw [uR]; exact hu)
 ·subst h; rw [if_neg (by omega), if_pos rfl] at hu; cases hu; exact h2
 ·rw [if_neg (by omega), if_neg (by omega)] at hu; exact h3 j u h (by rw [uR]; exact hu)
theorem gu (A : Option Addr) (n c i base vb : Nat) (st : List Int) (d : Int) (w : World) (h : zL w base A n c st) (hv : AJ w vb 3 #[.int .i64 d]) (Dt : base ≤ w.heap.size) (hne : ∀ b, A = some ⟨b, 0, none⟩ → b ≠ vb) (hi : i ≤ n) (hn : n ≤ 1000000) :
 Calls prog 129 #[.slice A n c, .int .i64 (i : Int), .slice (some ⟨vb, 0, none⟩) 1 1] w (fQ w base n (st.take i ++ d :: st.drop i)) := by
 have Da := h.len
 have UV : ∀ j v, [Value.int .i64 d][j]? = some v → w.cell? ⟨vb, 0 + j, none⟩ = some v := fun j v e => by
  rcases j with _ | j
  ·exact (hv.cell 0).trans e
  ·cases e
 have Va : ∀ v ∈ [Value.int .i64 d], v.oneCell' = true := fun v hv => by rw [List.mem_singleton.1 hv]; rfl
 have Iu : (zE st).length = n := by rw [vT, Da]
 rcases gd h with ⟨rfl, rfl, rfl⟩ | ⟨b, cur, rfl, Fb, AU, hh, Ip, LM, hcs, AG⟩
 ·obtain rfl : i = 0 := by omega
  obtain rfl : st = [] := List.eq_nil_of_length_eq_zero Da;refine (Any2.slices_Insert_int_end_grow laysNm221 none 0 0 vb 0 1 1 [] [.int .i64 d] w (by decide) lR (by decide) (by decide) rfl rfl (fun _ => rfl) (fun a e => by cases e) UV Va).mono ?_;rintro e w' hw;simp only [et3] at hw;obtain ⟨rfl, rfl⟩ := hw;refine ⟨_, _, rfl, ?_, (fun b off e => by cases e; exact Dt), ((Below.refl _ _).drew).alloc (by simp; omega) _⟩;refine rm rfl lR (grownCap_ge ..) ?_ (by simp) (fun j u hj => by omega) ?_ (fun j u _ hu => by cases hu)
  ·have := grownCap_le_maxLen w (0 + 1) 0 3 (by decide); simpa [maxLen] using this
  ·have := (AJ.new w.drew 3 ((([] ++ [Value.int .i64 d] : List Value)).toArray ++ Builtin.zeroCells (Value.int .i64 0).cells (grownCap w (0 + 1) 0 3 - (0 + 1)))).cell 0;refine this.trans ?_;rw [Array.getElem?_append_left (by simp)];rfl
 ·have hcell : ∀ j u, (zE st)[j]? = some u → w.cell? ⟨b, j, none⟩ = some u := fun j u hu => (cell_of_row w b j cur _ _ hh).trans (AG j u hu)
  have hsome : ∀ j, j < c → (w.cell? ⟨b, j, none⟩).isSome = true := fun j hj => by
   rw [cell_of_row w b j cur _ _ hh, Array.getElem?_eq_getElem (by omega)]; rfl
  have AY : ∀ j, w.frozen? ⟨b, j, none⟩ = false := fun j => by simp [World.frozen?, hh]
  have Ou : vb ≠ b := fun e => hne b rfl e.symm
  rcases Nat.lt_or_ge c (n + 1) with hr | hr
  ·obtain rfl : c = n := by omega
   rcases Nat.lt_or_ge i c with QH | QH
   ·refine (Any2.slices_Insert_int_grow laysNm221 b 0 c c i vb 0 1 1 (zE st) [.int .i64 d] w QH (by decide) lR hr (by omega) Iu rfl (fun j v e => by rw [Nat.zero_add]; exact hcell j v e) UV (xI _) Va).mono ?_;rintro e w' hw;simp only [et3] at hw;obtain ⟨rfl, rfl⟩ := hw;refine ⟨_, _, rfl, ?_, (fun b off e => by cases e; exact Dt), ?_⟩
    ·obtain ⟨Z, hZ⟩ : ∃ Z : Array Value, Z = ((zE st).take i).toArray ++ Builtin.zeroCells (Value.int .i64 0).cells (c + 1 - i) ++ Builtin.zeroCells (Value.int .i64 0).cells (grownCap w (c + 1) c 3 - (c + 1)) := ⟨_, rfl⟩
     have VX : AJ (w.alloc (.cells Z 3)).drew w.heap.size 3 Z := AJ.new w 3 Z;have Au : ((zE st).take i).length = i := by rw [List.length_take, Iu]; omega
     have Av : c + 1 ≤ Z.size := by rw [hZ]; simp [Builtin.zeroCells, Value.cells]; omega
     have hS : ∀ j, j < c + 1 → ((w.alloc (.cells Z 3)).drew.cell? ⟨w.heap.size, j, none⟩).isSome = true := fun j hj => by rw [VX.cell j, Array.getElem?_eq_getElem (by omega)]; rfl
     have hd : ((zE st).drop i).length = c - i := by rw [List.length_drop, Iu]
     rw [← hZ];refine rm Da hi (grownCap_ge ..) ?_ ?_ (fun j u hj hu => ?_) ?_ (fun j u hj hu => ?_)
     ·have := grownCap_le_maxLen w (c + 1) c 3 (by simp [maxLen]; omega); simpa [maxLen] using this
     ·have := (below_setCells_w (B := 0) (g := w.heap.size) (Nat.zero_le _) ((zE st).drop i) (i + 1) ((w.alloc (.cells Z 3)).drew.setCells w.heap.size i [.int .i64 d]).drew).size;have h2 := (below_setCells_w (B := 0) (g := w.heap.size) (Nat.zero_le _) [.int .i64 d] i (w.alloc (.cells Z 3)).drew).size;have h3 : (w.alloc (.cells Z 3)).drew.heap.size = w.heap.size + 1 := by simp
      have h4 : ((w.alloc (.cells Z 3)).drew.setCells w.heap.size i [.int .i64 d]).drew.heap.size = ((w.alloc (.cells Z 3)).drew.setCells w.heap.size i [.int .i64 d]).heap.size := rfl;omega
     ·rw [World.cell?_setCells_out _ _ _ _ _ (fun _ _ => .inl (by simp; omega))]
      show (World.setCells _ _ _ _).cell? _ = _
      rw [World.cell?_setCells_out _ _ _ _ _ (fun _ _ => .inl (by simp; omega)), VX.cell j, hZ, Array.getElem?_append_left (by simp [Builtin.zeroCells]; omega), Array.getElem?_append_left (by simp; omega)];simp only [List.getElem?_toArray];rw [List.getElem?_take, if_pos hj]; exact hu
     ·rw [World.cell?_setCells_out _ _ _ _ _ (fun _ _ => .inl (by simp))];exact World.cell?_setCells_in w.heap.size [.int .i64 d] i (w.alloc (.cells Z 3)).drew (fun j hj => hS _ (by simp at hj; omega)) 0 (by simp)
     ·have Am : j - 1 < c := by rw [← Iu]; exact (List.getElem?_eq_some_iff.1 hu).1
      have := World.cell?_setCells_in w.heap.size ((zE st).drop i) (i + 1) ((w.alloc (.cells Z 3)).drew.setCells w.heap.size i [.int .i64 d]).drew (fun k hk => by
       show ((World.setCells _ _ _ _).cell? _).isSome = true
       rw [World.cell?_setCells_out _ _ _ _ _ (fun _ _ => .inr (by simp))];exact hS _ (by rw [hd] at hk; omega)) (j - (i + 1)) (by rw [hd]; omega)
      rw [show i + 1 + (j - (i + 1)) = j by omega] at this;rw [this, List.getElem_drop, ← hu, List.getElem?_eq_getElem (by rw [Iu]; omega)];simp only [Option.some.injEq]
      congr 1; omega
    ·exact (((Below.refl _ _).alloc Dt _).drew.trans (below_setCells_w Dt _ _ _)).drew.trans (below_setCells_w Dt _ _ _)
   ·obtain rfl : i = c := by omega
    refine (Any2.slices_Insert_int_end_grow laysNm221 (some ⟨b, 0, none⟩) i i vb 0 1 1 (zE st) [.int .i64 d] w (by decide) lR hr (by omega) Iu rfl (fun e => by cases e) (fun a e j v hj => by cases e; rw [xi]; rw [Nat.zero_add]; exact hcell j v hj) UV Va).mono ?_;rintro e w' hw;simp only [et3] at hw;obtain ⟨rfl, rfl⟩ := hw;refine ⟨_, _, rfl, ?_, (fun b off e => by cases e; exact Dt), ((Below.refl _ _).drew).alloc (by simp; omega) _⟩;have VX := AJ.new w.drew 3 ((zE st ++ [Value.int .i64 d]).toArray ++ Builtin.zeroCells (Value.int .i64 0).cells (grownCap w (i + 1) i 3 - (i + 1)));refine rm Da hi (grownCap_ge ..) ?_ (by simp) (fun j u hj hu => ?_) ?_ (fun j u hj hu => ?_)
    ·have := grownCap_le_maxLen w (i + 1) i 3 (by simp [maxLen]; omega); simpa [maxLen] using this
    ·refine (VX.cell j).trans ?_;rw [Array.getElem?_append_left (by simp [Iu]; omega), List.getElem?_toArray, List.getElem?_append_left (by omega)];exact hu
    ·refine (VX.cell i).trans ?_;rw [Array.getElem?_append_left (by simp [Iu]), List.getElem?_toArray, List.getElem?_append_right (by omega), Iu, Nat.sub_self];rfl
    ·have := (List.getElem?_eq_some_iff.1 hu).1;omega
  ·rcases Nat.lt_or_ge i n with QH | QH
   ·refine (Any2.slices_Insert_int_shift laysNm221 b 0 n c i vb 0 1 1 (zE st) [.int .i64 d] w QH (by decide) hr LM Ou Iu rfl (fun j v e => by rw [Nat.zero_add]; exact hcell j v e) (fun j hj => by rw [Nat.zero_add]; exact hsome j (by omega)) (fun j _ => by rw [Nat.zero_add]; exact AY j) UV (xI _) Va 3 3 1 c (by unfold World.shape?; rw [show w.heap[vb]? = _ from hv]; rfl) (by unfold World.shape?; rw [hh]; simp [hcs]) (by omega) (hv.frozen 0) (hv.frozen 1)).mono ?_;rintro e w' ⟨rfl, rfl⟩;have hd : ((zE st).drop i).length = n - i := by rw [List.length_drop, Iu]
    refine ⟨_, _, rfl, ?_, (fun b off e => by cases e; exact Fb), ((Below.refl _ _).drew.trans (below_setCells_w Fb _ _ _)).trans (below_setCells_w Fb _ _ _)⟩;refine rm Da hi hr LM ?_ (fun j u hj hu => ?_) ?_ (fun j u hj hu => ?_)
    ·have h1 := (below_setCells_w (B := 0) (g := b) (Nat.zero_le _) ((zE st).drop i) (0 + (i + 1)) w.drew).size;have h2 := (below_setCells_w (B := 0) (g := b) (Nat.zero_le _) [.int .i64 d] (0 + i) (w.drew.setCells b (0 + (i + 1)) ((zE st).drop i))).size;have h3 : w.drew.heap.size = w.heap.size := rfl;omega
    ·rw [World.cell?_setCells_out _ _ _ _ _ (fun _ _ => .inl (by simp; omega)), World.cell?_setCells_out _ _ _ _ _ (fun _ _ => .inl (by simp; omega))];exact hcell j u hu
    ·have := World.cell?_setCells_in b [.int .i64 d] (0 + i) (w.drew.setCells b (0 + (i + 1)) ((zE st).drop i)) (fun j hj => by
      rw [World.cell?_setCells_out _ _ _ _ _ (fun _ _ => .inl (by simp at hj ⊢; omega))];rw [Nat.zero_add];exact hsome (i + j) (by simp at hj; omega)) 0 (by simp)
     simp only [Nat.zero_add, Nat.add_zero] at this ⊢;exact this
    ·have Am : j - 1 < n := by rw [← Iu]; exact (List.getElem?_eq_some_iff.1 hu).1
     rw [World.cell?_setCells_out _ _ _ _ _ (fun _ _ => .inr (by simp; omega))];have := World.cell?_setCells_in b ((zE st).drop i) (0 + (i + 1)) w.drew (fun k hk => by rw [hd] at hk; rw [Nat.zero_add]; exact hsome (i + 1 + k) (by omega)) (j - (i + 1)) (by rw [hd]; omega);rw [show 0 + (i + 1) + (j - (i + 1)) = j by omega] at this;rw [this, List.getElem_drop, ← hu, List.getElem?_eq_getElem (by rw [Iu]; omega)];simp only [Option.some.injEq]
     congr 1; omega
   ·obtain rfl : i = n := by omega
    refine (Any2.slices_Insert_int_end_room laysNm221 b 0 i c vb 0 1 1 [.int .i64 d] w (by decide) hr LM rfl (fun j hj => by rw [Nat.zero_add]; exact hsome (i + j) (by omega)) (fun j _ => by rw [Nat.zero_add]; exact AY (i + j)) UV Va).mono ?_;rintro e w' ⟨rfl, rfl⟩;refine ⟨_, _, rfl, ?_, (fun b off e => by cases e; exact Fb), below_setCells_w Fb _ _ _⟩;refine rm Da hi hr LM ?_ (fun j u hj hu => ?_) ?_ (fun j u hj hu => ?_)
    ·have h1 := (below_setCells_w (B := 0) (g := b) (Nat.zero_le _) [.int .i64 d] (0 + i) w).size;omega
    ·rw [World.cell?_setCells_out _ _ _ _ _ (fun _ _ => .inl (by simp; omega))];exact hcell j u hu
    ·have := World.cell?_setCells_in b [.int .i64 d] (0 + i) w (fun j hj => by rw [Nat.zero_add]; exact hsome (i + j) (by simp at hj; omega)) 0 (by simp);simp only [Nat.zero_add, Nat.add_zero] at this ⊢;exact this
    ·have := (List.getElem?_eq_some_iff.1 hu).1;omega
end
theorem kJ (v : Int) : ∀ {l : List Int}, l.Pairwise (· < ·) → l.take (l.countP (fun x => decide (x < v))) = l.takeWhile (fun x => decide (x < v)) ∧ l.drop (l.countP (fun x => decide (x < v))) = l.dropWhile (fun x => decide (x < v))
 | [], _ => by simp
 | x :: l, h => by
  obtain ⟨h1, h2⟩ := List.pairwise_cons.mp h;by_cases hx : x < v
  ·obtain ⟨e1, e2⟩ := kJ v h2;rw [List.countP_cons_of_pos (by simpa using hx), List.takeWhile_cons_of_pos (by simpa using hx), List.dropWhile_cons_of_pos (by simpa using hx), List.take_succ_cons, List.drop_succ_cons, e1, e2];exact ⟨rfl, rfl⟩
  ·have h0 : (x :: l).countP (fun x => decide (x < v)) = 0 := by
    rw [List.countP_eq_zero];intro y hy;rcases List.mem_cons.mp hy with rfl | hy
    ·simpa using hx
    ·have := h1 y hy; simp; omega
   rw [h0, List.takeWhile_cons_of_neg (by simpa using hx), List.dropWhile_cons_of_neg (by simpa using hx)];simp
structure Lm (w : World) (gr : Array Value) (wr : World) : Prop where
 b0 : AJ wr w.heap.size 37 gr
 b1 : AJ wr (w.heap.size + 1) 37 #[.int .i64 0, .slice none 0 0, .slice none 0 0]
 bl : bW w wr
theorem Lm.new (w : World) (gr : Array Value) : Lm w gr ((w.alloc (.cells gr 37)).alloc (.cells #[.int .i64 0, .slice none 0 0, .slice none 0 0] 37)) :=
 ⟨(AJ.new w _ _).alloc _, by have := AJ.new (w.alloc (.cells gr 37)) 37 #[.int .i64 0, .slice none 0 0, .slice none 0 0]; simpa using this, ((Below.refl _ _).alloc lR _).alloc (by simp) _⟩
theorem Lm.later (h : Lm w gr wr) (hb : bW wr wr') : Lm w gr wr' := ⟨h.b0.below hb h.b0.lt, h.b1.below hb h.b1.lt, h.bl.trans (hb.mono h.bl.size)⟩
theorem Lm.cut (h : Lm w #[x, y, z] wr) : Lm w #[x, y, u] (wr.setCell ⟨w.heap.size, 2, none⟩ u) := ⟨h.b0.set 2 _, h.b1.far (by simp) _, h.bl.setCell (by simp) _⟩
theorem Lm.fin (h : Lm w #[x, y, z] wr) : AJ (((wr.setCell ⟨w.heap.size + 1, 0, none⟩ x).setCell ⟨w.heap.size + 1, 1, none⟩ y).setCell ⟨w.heap.size + 1, 2, none⟩ z) (w.heap.size + 1) 37 #[x, y, z] ∧ bW w (((wr.setCell ⟨w.heap.size + 1, 0, none⟩ x).setCell ⟨w.heap.size + 1, 1, none⟩ y).setCell ⟨w.heap.size + 1, 2, none⟩ z) :=
 ⟨((h.b1.set 0 _).set 1 _).set 2 _, ((h.bl.setCell (by simp) _).setCell (by simp) _).setCell (by simp) _⟩
theorem Sl.ne {B x : Nat} (h : Sl w B size A n c xs) (hx : ∀ b off, A = some ⟨b, off, none⟩ → b ≠ x) : Sl (w.setCell ⟨x, i, none⟩ u) B size A n c xs :=
 ⟨h.1, h.2.1, h.2.2.1, h.2.2.2.1, fun hn => by
  obtain ⟨b, off, rfl, hb, hc⟩ := h.2.2.2.2 hn;refine ⟨b, off, rfl, hb, fun j v hv => ?_⟩;exact (World.cell?_setCell_far w ⟨x, i, none⟩ ⟨b, off + j, none⟩ u (fun e => hx b off rfl e.symm)).trans (hc j v hv)⟩
theorem mt (Al Ap : Option Addr) (nl cl np cp : Nat) (co v : Int) (pr : List Int) (w : World) (hp : BI w 1 Ap np cp (zE pr)) (TQ : np ≤ 1000) (ho : pr.Pairwise (· < ·)) :
 Calls prog 103 #[.agg #[.int .i64 co, .slice Al nl cl, .slice Ap np cp], .int .i64 v] w fun e w' => ∃ (A : Option Addr) (n c : Nat), e = .returned (.agg #[.int .i64 co, .slice Al nl cl, .slice A n c]) ∧ Hid (BI w' 1 A n c (zE (ws pr v))) ∧ Hid (A = Ap ∧ n = np ∧ c = cp ∧ ws pr v = pr ∨ ∀ b off, A = some ⟨b, off, none⟩ → w.heap.size ≤ b) ∧ Hid (bW w w') := by
 have HB := iD (Lm.new w #[.int .i64 co, .slice Al nl cl, .slice Ap np cp]);have HP := iD hp;have OH : Hid (pr.length = np) := hp.len (fun _ => rfl) (by decide);have HO := iD ho;have AO := iD (kJ v ho);clear hp ho
 go_enter func103, ntmps103
 go_upto_region 1 with (fail);generalize World.alloc (World.alloc w _) _ = W at *;have Ag := iD (mJ Ap np cp w.heap.size pr v W (HP.below HB.bl lR) (by omega) HO);have g2 := HB.b0.c2
 go_wp2_with fail
 clear g2;refine Ag.mono ?_;rintro e w1 ⟨rfl, q, hw⟩;have AQ : Hid (Lm w #[.int .i64 co, .slice Al nl cl, .slice Ap np cp] w1) := by unfold Hid; rw [hw]; exact HB.later (sj bR q)
 clear hw HB Ag;by_cases hm : v ∈ pr
 ·have HV : Hid (ws pr v = pr) := by unfold Hid ws; rw [if_pos hm]
  have q1 : decide (v ∈ pr) = true := by simpa using hm
  clear hm;obtain ⟨g0, g1, g2⟩ := AQ.b0.d3;obtain ⟨d0, d1, d2⟩ := AQ.b1.d3;obtain ⟨y0, y1, y2⟩ := AQ.b1.e3;have HE := iD (AQ.fin);have Hd : Hid (Sl (((w1.setCell ⟨w.heap.size + 1, 0, none⟩ (.int .i64 co)).setCell ⟨w.heap.size + 1, 1, none⟩ (.slice Al nl cl)).setCell ⟨w.heap.size + 1, 2, none⟩ (.slice Ap np cp)) (w.heap.size) 1 Ap np cp (zE (ws pr v))) := by unfold Hid; rw [HV.out]; exact (((HP.below AQ.bl lR).setCell (by simp) _).setCell (by simp) _).setCell (by simp) _
  go_wp2_with fail
  have hz : w.heap.size ≤ (((w1.setCell ⟨w.heap.size + 1, 0, none⟩ (.int .i64 co)).setCell ⟨w.heap.size + 1, 1, none⟩ (.slice Al nl cl)).setCell ⟨w.heap.size + 1, 2, none⟩ (.slice Ap np cp)).heap.size := by simp [World.setCell]; have := AQ.bl.size; omega
  generalize World.setCell (World.setCell (World.setCell w1 _ _) _ _) _ _ = z at *;obtain ⟨q0, q1, q2⟩ := HE.1.d3;exact bodyPost_ret (v := .agg #[.int .i64 co, .slice Al nl cl, .slice Ap np cp]) (by simp [results, results103, go_sem, q0, q1, q2]) rfl ⟨_, _, _, rfl, Hd.more hz, .inl ⟨rfl, rfl, rfl, HV⟩, HE.2⟩
 have HV : Hid (ws pr v = pr.take (pr.countP (fun x => decide (x < v))) ++ v :: pr.drop (pr.countP (fun x => decide (x < v)))) := by unfold Hid ws; rw [if_neg hm, AO.1, AO.2]
 have q1 : decide (v ∈ pr) = false := by simpa using hm
 have hi : pr.countP (fun x => decide (x < v)) ≤ np := by have := List.countP_le_length (p := fun x => decide (x < v)) (l := pr); have := OH.out; omega
 clear hm AO;obtain ⟨i, AX⟩ : ∃ i, i = pr.countP (fun x => decide (x < v)) := ⟨_, rfl⟩
 rw [← AX] at HV hi ⊢;clear AX;have g2 := AQ.b0.c2
 go_wp2_with fail
 clear g2 q1;refine (yo Ap np cp w1.heap.size pr w1 ((HP.below AQ.bl lR).more AQ.bl.size) lR (by omega)).mono ?_;rintro e w2 ⟨A2, c2, rfl, Dc, AZ⟩;rw [OH.out] at Dc ⊢;have Ai := iD (AQ.later AZ);have Ay := iD Dc.out;have Ak : w.heap.size + 1 < w1.heap.size := AQ.b1.lt;have NI : Hid (w1.heap.size ≤ w2.heap.size) := AZ.size;clear Dc AZ AQ;have PN := iD (AJ.new w2 3 #[.int .i64 v]);have Az := iD (Ay.later ((Below.refl _ w2).alloc lR (.cells #[.int .i64 v] 3)));have CO := iD (Ai.later ((Below.refl _ w2).alloc lR (.cells #[.int .i64 v] 3)));have Je : Hid (∀ b, A2 = some ⟨b, 0, none⟩ → b ≠ w2.heap.size) := fun b e => by have := (Ay.lt b (by rw [e]; rfl)).2; omega
 have Lf := iD (gu A2 np c2 i w1.heap.size w2.heap.size pr v (w2.alloc (.cells #[.int .i64 v] 3)) Az PN (by have := NI.out; simp; omega) Je hi (by omega))
 go_wp2_with fail
 refine Lf.mono ?_;rintro e w4 ⟨A4, c4, rfl, Aa, Ab, Be⟩;have DF : Hid (Lm w #[.int .i64 co, .slice Al nl cl, .slice Ap np cp] w4) := ⟨CO.b0.below Be (by omega), CO.b1.below Be (by omega), CO.bl.trans (Be.mono (by omega))⟩;have Bz := iD Aa.out;have AP := iD Ab.out;clear Aa Ab Be Lf Je CO Az PN Ay Ai NI;have y2 := DF.b0.frozen 2;have g2 := DF.b0.cell 2;have Ah := iD (DF.cut (u := .slice A4 (np + 1) c4));have CX := iD (Bz.ne (x := w.heap.size) (i := 2) (u := .slice A4 (np + 1) c4) (fun b off e => by have := AP b off e; omega));go_upto_region 4 with (fail);clear y2 g2;have Vj : Hid (∀ b off, A4 = some ⟨b, off, none⟩ → w.heap.size ≤ b) := fun b off e => by have := AP b off e; omega
 have HA4' : Hid (∀ b off, A4 = some ⟨b, off, none⟩ → b ≠ w.heap.size + 1) := fun b off e => by have := AP b off e; omega
 have Aj : (w4.setCell ⟨w.heap.size, 2, none⟩ (.slice A4 (np + 1) c4)).heap.size = w4.heap.size := by simp [World.setCell]
 rw [← Aj] at CX;generalize World.setCell w4 _ _ = X at *;obtain ⟨g0, g1, g2⟩ := Ah.b0.d3;obtain ⟨d0, d1, d2⟩ := Ah.b1.d3;obtain ⟨y0, y1, y2⟩ := Ah.b1.e3;have HE := iD (Ah.fin);have Hd : Hid (Sl (((X.setCell ⟨w.heap.size + 1, 0, none⟩ (.int .i64 co)).setCell ⟨w.heap.size + 1, 1, none⟩ (.slice Al nl cl)).setCell ⟨w.heap.size + 1, 2, none⟩ (.slice A4 (np + 1) c4)) (X.heap.size) 1 A4 (np + 1) c4 (zE (ws pr v))) := by unfold Hid; rw [HV.out]; exact ((CX.ne HA4').ne HA4').ne HA4'.out
 go_wp2_with fail
 have hz : X.heap.size ≤ (((X.setCell ⟨w.heap.size + 1, 0, none⟩ (.int .i64 co)).setCell ⟨w.heap.size + 1, 1, none⟩ (.slice Al nl cl)).setCell ⟨w.heap.size + 1, 2, none⟩ (.slice A4 (np + 1) c4)).heap.size := by simp [World.setCell]
 generalize World.setCell (World.setCell (World.setCell X _ _) _ _) _ _ = z at *;obtain ⟨q0, q1, q2⟩ := HE.1.d3;exact bodyPost_ret (v := .agg #[.int .i64 co, .slice Al nl cl, .slice A4 (np + 1) c4]) (by simp [results, results103, go_sem, q0, q1, q2]) rfl ⟨_, _, _, rfl, Hd.more hz, .inr Vj, HE.2⟩
structure KE (w : World) (nt gr st : Array Value) (wr : World) : Prop where
 b0 : AJ wr w.heap.size 30 nt
 b1 : AJ wr (w.heap.size + 1) 37 gr
 b2 : AJ wr (w.heap.size + 2) 43 st
 b3 : AJ wr (w.heap.size + 3) 37 #[.int .i64 0, .slice none 0 0, .slice none 0 0]
 bl : bW w wr
theorem KE.new (w : World) (nt gr st : Array Value) : KE w nt gr st ((((w.alloc (.cells nt 30)).alloc (.cells gr 37)).alloc (.cells st 43)).alloc (.cells #[.int .i64 0, .slice none 0 0, .slice none 0 0] 37)) := by
 obtain ⟨h0, h1, h2, h3, h4⟩ := eD w 30 37 43 37 nt gr st #[.int .i64 0, .slice none 0 0, .slice none 0 0];exact ⟨h0, h1, h2, h3, h4⟩
theorem KE.later (h : KE w nt gr st wr) (hb : bW wr wr') : KE w nt gr st wr' := ⟨h.b0.below hb h.b0.lt, h.b1.below hb h.b1.lt, h.b2.below hb h.b2.lt, h.b3.below hb h.b3.lt, h.bl.trans (hb.mono h.bl.size)⟩
theorem KE.fin (h : KE w nt gr st wr) : AJ (((wr.setCell ⟨w.heap.size + 3, 0, none⟩ x).setCell ⟨w.heap.size + 3, 1, none⟩ y).setCell ⟨w.heap.size + 3, 2, none⟩ z) (w.heap.size + 3) 37 #[x, y, z] ∧ bW w (((wr.setCell ⟨w.heap.size + 3, 0, none⟩ x).setCell ⟨w.heap.size + 3, 1, none⟩ y).setCell ⟨w.heap.size + 3, 2, none⟩ z) :=
 ⟨((h.b3.set 0 _).set 1 _).set 2 _, ((h.bl.setCell (by simp) _).setCell (by simp) _).setCell (by simp) _⟩
theorem KE.cut (h : KE w nt #[x, y, z] st wr) : KE w nt #[x, u, z] st (wr.setCell ⟨w.heap.size + 1, 1, none⟩ u) :=
 ⟨h.b0.far (by simp) _, h.b1.set 1 _, h.b2.far (by simp) _, h.b3.far (by simp) _, h.bl.setCell (by simp) _⟩
theorem sl3 {x : Nat} {a b d : Value} (h : BI w size A n c xs) (hx : ∀ b off, A = some ⟨b, off, none⟩ → b ≠ x) : Sl (((w.setCell ⟨x, 0, none⟩ a).setCell ⟨x, 1, none⟩ b).setCell ⟨x, 2, none⟩ d) (((w.setCell ⟨x, 0, none⟩ a).setCell ⟨x, 1, none⟩ b).setCell ⟨x, 2, none⟩ d).heap.size size A n c xs :=
 (((h.ne hx).ne hx).ne hx).more (by simp [World.setCell])
def yA (ns : List Nd) (ds : List Dv) (ls : List Lk) (x : Sp) : List Lk × Bool :=
 if x.kind = 3 then (if zh ns ds ls ⟨x.dev, x.pos, x.key⟩ ≠ 0 then (ls, false) else (ww ⟨x.dev, x.pos, x.key⟩ ls, true))
 else match ta x.dev x.key ls with
  | none => (ls, false)
  | some i => (ls.eraseIdx i, true)
def fP (w : World) (co : Int) (Al Ap : Option Addr) (nl cl np cp : Nat) (ns : List Nd) (ds : List Dv) (ls : List Lk) (x : Sp) (e : Ending) (w' : World) : Prop :=
 ∃ (A : Option Addr) (n c : Nat), e = .returned (.tuple #[.agg #[.int .i64 co, .slice A n c, .slice Ap np cp], .bool (yA ns ds ls x).2]) ∧ Hid (Sl w' w'.heap.size 3 A n c ((yA ns ds ls x).1.flatMap Lk.cells)) ∧ Hid (A = Al ∧ n = nl ∧ c = cl ∧ (yA ns ds ls x).1 = ls ∨ ∀ b off, A = some ⟨b, off, none⟩ → w.heap.size ≤ b) ∧ Hid (Below w.heap.size w w')
theorem qS.any {q : Int} {e : Ending} {w' : World} (h : qS w ns ds ls d q e w') : ∃ (A : Option Addr) (n c : Nat) (er : Int), e = .returned (.tuple #[.slice A n c, .int .i64 er]) ∧ Hid (bW w w') := by
 obtain ⟨⟨-, rfl⟩ | ⟨-, -, rfl⟩ | ⟨-, i, A, c, -, rfl, -⟩, hb⟩ := h
 ·exact ⟨_, _, _, _, rfl, hb⟩
 ·exact ⟨_, _, _, _, rfl, hb⟩
 ·exact ⟨_, _, _, _, rfl, hb⟩
theorem sc (An Ad Al Ap : Option Addr) (nn cn nd cd nl cl np cp : Nat) (ns : List Nd) (ds : List Dv) (ls : List Lk) (co k d no p q : Int) (w : World) (IE : Laid w) (hn : BI w 3 An nn cn (ns.flatMap Nd.cells)) (hd : BI w 5 Ad nd cd (ds.flatMap Dv.cells)) (hl : BI w 3 Al nl cl (ls.flatMap Lk.cells)) (Bg : FP ns) (BU : Fv ds) (hk : k = 3 ∨ k = 4) (h0 : zJ ns ds ls = 0) :
 Calls prog 104 #[.agg #[.slice An nn cn, .slice Ad nd cd], .agg #[.int .i64 co, .slice Al nl cl, .slice Ap np cp], .agg #[.int .i64 k, .int .i64 d, .int .i64 no, .int .i64 p, .int .i64 q]] w (fP w co Al Ap nl cl np cp ns ds ls ⟨k, d, no, p, q⟩) := by
 have HB := iD (KE.new w #[.slice An nn cn, .slice Ad nd cd] #[.int .i64 co, .slice Al nl cl, .slice Ap np cp] #[.int .i64 k, .int .i64 d, .int .i64 no, .int .i64 p, .int .i64 q]);have Ac := iD hn; have Af := iD hd; have AE := iD hl; have Ae := iD IE; have Ej := iD Bg; have Ce := iD BU; have HZ := iD h0;obtain rfl : ls.length = nl := hl.len (fun _ => rfl) (by decide);clear hn hd hl IE Bg BU h0
 go_enter func104, ntmps104
 go_upto_region 1 with (fail);generalize World.alloc (World.alloc (World.alloc (World.alloc w _) _) _) _ = W at *;rw [show w.heap.size + 1 + 1 = w.heap.size + 2 from rfl, show w.heap.size + 2 + 1 = w.heap.size + 3 from rfl];have AB := iD (nS An Ad Al nn cn nd cd cl w.heap.size w.heap.size w.heap.size ns ds ls d q W (Ae.below HB.bl lR) (Ac.below HB.bl lR) (Af.below HB.bl lR) (AE.below HB.bl lR) HB.bl.size HB.bl.size HB.bl.size Ej Ce);obtain ⟨k0, k1⟩ := HB.b0.d2;obtain ⟨g0, g1, g2⟩ := HB.b1.d3;obtain ⟨s0, s1⟩ := HB.b2.d2;have s3 := HB.b2.c3;have s4 := HB.b2.c4
 go_wp2_with fail
 clear k0 k1 g0 g1 g2 s0 s1 s3 s4;refine AB.mono ?_;have Ao : Hid (w.heap.size + 3 < W.heap.size) := HB.b3.lt;rcases hk with rfl | rfl; rotate_left
 ·rintro e w1 ⟨⟨h1, -⟩ | ⟨-, hi, rfl⟩ | ⟨-, i, A, c, hi, rfl, hO⟩, hb⟩
  ·exact absurd HZ.out h1
  ·have HT : Hid (yA ns ds ls ⟨4, d, no, p, q⟩ = (ls, false)) := by unfold Hid yA; rw [if_neg (show ¬ (4 : Int) = 3 by decide)]; simp only [hi]
   have AQ := iD (HB.later hb);clear hi hb AB;obtain ⟨g0, g1, g2⟩ := AQ.b1.d3;have s0 := AQ.b2.c0;obtain ⟨d0, d1, d2⟩ := AQ.b3.d3;obtain ⟨y0, y1, y2⟩ := AQ.b3.e3;have HE := iD (AQ.fin (x := .int .i64 co) (y := .slice Al ls.length cl) (z := .slice Ap np cp));have Hd : Hid (Sl (((w1.setCell ⟨w.heap.size + 3, 0, none⟩ (.int .i64 co)).setCell ⟨w.heap.size + 3, 1, none⟩ (.slice Al ls.length cl)).setCell ⟨w.heap.size + 3, 2, none⟩ (.slice Ap np cp)) w.heap.size 3 Al ls.length cl (ls.flatMap Lk.cells)) := (((AE.below AQ.bl lR).setCell (by simp) _).setCell (by simp) _).setCell (by simp) _
   go_wp2_with fail
   generalize World.setCell (World.setCell (World.setCell w1 _ _) _ _) _ _ = z at *;obtain ⟨q0, q1, q2⟩ := HE.1.d3;exact bodyPost_ret (v := .tuple #[.agg #[.int .i64 co, .slice Al ls.length cl, .slice Ap np cp], .bool false]) (by simp [results, results104, go_sem, q0, q1, q2]) rfl ⟨_, _, _, by rw [HT.out], by rw [HT.out]; exact Hd.more HE.2.size, .inl ⟨rfl, rfl, rfl, by rw [HT.out]⟩, HE.2⟩
  ·have HT : Hid (yA ns ds ls ⟨4, d, no, p, q⟩ = (ls.eraseIdx i, true)) := by unfold Hid yA; rw [if_neg (show ¬ (4 : Int) = 3 by decide)]; simp only [hi]
   have AQ := iD (HB.later hb);have NS := iD (Sl.of_own hO)
   have GG : Hid (∀ b off, A = some ⟨b, off, none⟩ → w.heap.size + 3 < b) := fun b off e => by
    have h := hO.lt b (by rw [e]; rfl);have := Ao.out; omega
   clear hi hb hO AB;have g1 := AQ.b1.c1;have s0 := AQ.b2.c0;have z1 := AQ.b1.frozen 1;have Ah := iD (AQ.cut (u := .slice A (ls.length - 1) c));have CX := iD ((NS.ne (x := w.heap.size + 1) (i := 1) (u := .slice A (ls.length - 1) c) (fun b off e => by have := GG b off e; omega)).more (show _ ≤ (World.setCell w1 ⟨w.heap.size + 1, 1, none⟩ (.slice A (ls.length - 1) c)).heap.size by simp [World.setCell]));have Vj : Hid (∀ b off, A = some ⟨b, off, none⟩ → w.heap.size ≤ b) := fun b off e => by have := GG b off e; omega
   have Hu : Hid (∀ b off, A = some ⟨b, off, none⟩ → b ≠ w.heap.size + 3) := fun b off e => by have := GG b off e; omega
   go_upto_region 7 with (fail);clear g1 z1 s0 NS GG;generalize World.setCell w1 _ _ = X at *;obtain ⟨g0, g1, g2⟩ := Ah.b1.d3;obtain ⟨d0, d1, d2⟩ := Ah.b3.d3;obtain ⟨y0, y1, y2⟩ := Ah.b3.e3;have HE := iD (Ah.fin (x := .int .i64 co) (y := .slice A (ls.length - 1) c) (z := .slice Ap np cp));have Hd := iD (sl3 (x := w.heap.size + 3) (a := .int .i64 co) (b := .slice A (ls.length - 1) c) (d := .slice Ap np cp) CX Hu)
   go_wp2_with fail
   generalize World.setCell (World.setCell (World.setCell X _ _) _ _) _ _ = z at *;obtain ⟨q0, q1, q2⟩ := HE.1.d3;exact bodyPost_ret (v := .tuple #[.agg #[.int .i64 co, .slice A (ls.length - 1) c, .slice Ap np cp], .bool true]) (by simp [results, results104, go_sem, q0, q1, q2]) rfl ⟨_, _, _, by rw [HT.out], by rw [HT.out]; exact Hd, .inr Vj, HE.2⟩
 ·intro e w1 hp;obtain ⟨A, n, c, er, rfl, hb⟩ := hp.any;have AQ := iD (HB.later hb);clear hp hb AB;have UG := iD (il An Ad Al nn cn nd cd cl w.heap.size w.heap.size w.heap.size ns ds ls d p q w1 (Ae.below AQ.bl lR) (Ac.below AQ.bl lR) (Af.below AQ.bl lR) (AE.below AQ.bl lR) AQ.bl.size AQ.bl.size AQ.bl.size Ej Ce);obtain ⟨k0, k1⟩ := AQ.b0.d2;obtain ⟨g0, g1, g2⟩ := AQ.b1.d3;obtain ⟨s0, s1⟩ := AQ.b2.d2;have s3 := AQ.b2.c3;have s4 := AQ.b2.c4
  go_wp2_with fail
  clear k0 k1 g0 g1 g2 s0 s1 s3 s4;refine UG.mono ?_;have AH : Hid (w.heap.size + 3 < w1.heap.size) := AQ.b3.lt;rintro e w2 ⟨⟨h1, rfl⟩ | ⟨h1, A3, c3, rfl, hO⟩, hb⟩
  ·have HT : Hid (yA ns ds ls ⟨3, d, no, p, q⟩ = (ls, false)) := by unfold Hid yA; rw [if_pos rfl, if_pos h1]
   have Ai := iD (AQ.later hb);have q1 : (zh ns ds ls ⟨d, p, q⟩ != 0) = true := by simpa using h1
   clear h1 hb UG AQ;obtain ⟨g0, g1, g2⟩ := Ai.b1.d3;have s0 := Ai.b2.c0;obtain ⟨d0, d1, d2⟩ := Ai.b3.d3;obtain ⟨y0, y1, y2⟩ := Ai.b3.e3;have HE := iD (Ai.fin (x := .int .i64 co) (y := .slice Al ls.length cl) (z := .slice Ap np cp));have Hd : Hid (Sl (((w2.setCell ⟨w.heap.size + 3, 0, none⟩ (.int .i64 co)).setCell ⟨w.heap.size + 3, 1, none⟩ (.slice Al ls.length cl)).setCell ⟨w.heap.size + 3, 2, none⟩ (.slice Ap np cp)) w.heap.size 3 Al ls.length cl (ls.flatMap Lk.cells)) := (((AE.below Ai.bl lR).setCell (by simp) _).setCell (by simp) _).setCell (by simp) _
   go_wp2_with fail
   generalize World.setCell (World.setCell (World.setCell w2 _ _) _ _) _ _ = z at *;obtain ⟨q0, q1, q2⟩ := HE.1.d3;exact bodyPost_ret (v := .tuple #[.agg #[.int .i64 co, .slice Al ls.length cl, .slice Ap np cp], .bool false]) (by simp [results, results104, go_sem, q0, q1, q2]) rfl ⟨_, _, _, by rw [HT.out], by rw [HT.out]; exact Hd.more HE.2.size, .inl ⟨rfl, rfl, rfl, by rw [HT.out]⟩, HE.2⟩
  ·have HT : Hid (yA ns ds ls ⟨3, d, no, p, q⟩ = (ww ⟨d, p, q⟩ ls, true)) := by unfold Hid yA; rw [if_pos rfl, if_neg (by simp [h1])]
   have Ai := iD (AQ.later hb);have NS := iD (Sl.of_own hO)
   have GG : Hid (∀ b off, A3 = some ⟨b, off, none⟩ → w.heap.size + 3 < b) := fun b off e => by
    have h := hO.lt b (by rw [e]; rfl);have := AH.out; omega
   clear h1 hb hO UG AQ;have g1 := Ai.b1.c1;have s0 := Ai.b2.c0;have z1 := Ai.b1.frozen 1;have Ah := iD (Ai.cut (u := .slice A3 (ls.length + 1) c3));have CX := iD ((NS.ne (x := w.heap.size + 1) (i := 1) (u := .slice A3 (ls.length + 1) c3) (fun b off e => by have := GG b off e; omega)).more (show _ ≤ (World.setCell w2 ⟨w.heap.size + 1, 1, none⟩ (.slice A3 (ls.length + 1) c3)).heap.size by simp [World.setCell]));have Vj : Hid (∀ b off, A3 = some ⟨b, off, none⟩ → w.heap.size ≤ b) := fun b off e => by have := GG b off e; omega
   have Hu : Hid (∀ b off, A3 = some ⟨b, off, none⟩ → b ≠ w.heap.size + 3) := fun b off e => by have := GG b off e; omega
   go_upto_region 7 with (fail);clear g1 z1 s0 NS GG;generalize World.setCell w2 _ _ = X at *;obtain ⟨g0, g1, g2⟩ := Ah.b1.d3;obtain ⟨d0, d1, d2⟩ := Ah.b3.d3;obtain ⟨y0, y1, y2⟩ := Ah.b3.e3;have HE := iD (Ah.fin (x := .int .i64 co) (y := .slice A3 (ls.length + 1) c3) (z := .slice Ap np cp));have Hd := iD (sl3 (x := w.heap.size + 3) (a := .int .i64 co) (b := .slice A3 (ls.length + 1) c3) (d := .slice Ap np cp) CX Hu)
   go_wp2_with fail
   generalize World.setCell (World.setCell (World.setCell X _ _) _ _) _ _ = z at *;obtain ⟨q0, q1, q2⟩ := HE.1.d3;exact bodyPost_ret (v := .tuple #[.agg #[.int .i64 co, .slice A3 (ls.length + 1) c3, .slice Ap np cp], .bool true]) (by simp [results, results104, go_sem, q0, q1, q2]) rfl ⟨_, _, _, by rw [HT.out], by rw [HT.out]; exact Hd, .inr Vj, HE.2⟩
def mP (hz : List Int → List Int) (g : Int → Prop) (rows : List (List Int)) (k : Nat) (out : List Int) : Prop := out.length ≤ 7 * k ∧ out.Nodup ∧ ∀ h : Int, h ∈ out ↔ ∃ s ∈ rows.take k, h ∈ hz s ∧ g h
def uj (hz : List Int → List Int) (g : Int → Prop) (rows : List (List Int)) (k : Nat) (s : List Int) (j : Nat) (out : List Int) : Prop := out.length ≤ 7 * k + j ∧ out.Nodup ∧ ∀ h : Int, h ∈ out ↔ (∃ s ∈ rows.take k, h ∈ hz s ∧ g h) ∨ h ∈ (hz s).take j ∧ g h
section
variable {hz : List Int → List Int} {g : Int → Prop} {rows : List (List Int)} {k j : Nat} {s out : List Int} {x : Int}
theorem mP.start : mP hz g rows 0 [] := ⟨by simp, List.nodup_nil, fun h => by simp⟩
theorem mP.two (h : mP hz g rows k out) : uj hz g rows k s 0 out := ⟨by have := h.1; omega, h.2.1, fun y => by rw [h.2.2 y]; simp⟩
theorem uj.pass (h : uj hz g rows k s j out) (hx : (hz s)[j]? = some x) (hm : x ∈ out ∨ ¬ g x) : uj hz g rows k s (j + 1) out := by
 refine ⟨by have := h.1; omega, h.2.1, fun y => ?_⟩;rw [zP hx, List.mem_append, List.mem_singleton]
 constructor
 ·intro hy;rcases (h.2.2 y).1 hy with h1 | h1
  ·exact .inl h1
  ·exact .inr ⟨.inl h1.1, h1.2⟩
 ·rintro (h1 | ⟨h1 | h1, h2⟩)
  ·exact (h.2.2 y).2 (.inl h1)
  ·exact (h.2.2 y).2 (.inr ⟨h1, h2⟩)
  ·subst h1;rcases hm with hm | hm
   ·exact hm
   ·exact absurd h2 hm
theorem uj.put (h : uj hz g rows k s j out) (hx : (hz s)[j]? = some x) (hm : x ∉ out) (hg : g x) : uj hz g rows k s (j + 1) (out ++ [x]) := by
 refine ⟨by have := h.1; rw [List.length_append, List.length_singleton]; omega, ?_, fun y => ?_⟩
 ·rw [List.nodup_append];exact ⟨h.2.1, by simp, fun a ha b hb e => hm (by rw [List.mem_singleton.1 hb] at e; rw [← e]; exact ha)⟩
 ·rw [zP hx, List.mem_append, List.mem_append, List.mem_singleton, h.2.2 y]
  constructor
  ·rintro ((h1 | h1) | rfl)
   ·exact .inl h1
   ·exact .inr ⟨.inl h1.1, h1.2⟩
   ·exact .inr ⟨.inr rfl, hg⟩
  ·rintro (h1 | ⟨h1 | h1, h2⟩)
   ·exact .inl (.inl h1)
   ·exact .inl (.inr ⟨h1, h2⟩)
   ·exact .inr h1
theorem uj.done (h : uj hz g rows k s j out) (hj : (hz s).length = j) (h7 : j ≤ 7) (hs : rows[k]? = some s) : mP hz g rows (k + 1) out := by
 refine ⟨by have := h.1; omega, h.2.1, fun y => ?_⟩;rw [h.2.2 y, show (hz s).take j = hz s from List.take_of_length_le (by omega), zP hs]
 constructor
 ·rintro (⟨t, ht, h1⟩ | h1)
  ·exact ⟨t, List.mem_append_left _ ht, h1⟩
  ·exact ⟨s, by simp, h1⟩
 ·rintro ⟨t, ht, h1⟩;rcases List.mem_append.1 ht with h2 | h2
  ·exact .inl ⟨t, h2, h1⟩
  ·rw [List.mem_singleton.1 h2] at h1; exact .inr h1
end
def dy (w1 : World) (F : Nat → List Int → Prop) (n gk : Nat) (ov iv : Value) (wr : World) : Prop := ∃ (k mo co : Nat) (Ao : Option Addr) (out : List Int), iv = .int .i64 k ∧ ov = .slice Ao mo co ∧ k ≤ n ∧ gk = n - k ∧ Hid (zL wr w1.heap.size Ao mo co out) ∧ Hid (bW w1 wr) ∧ Hid (F k out)
def dx (w1 : World) (B4 Bk : Nat) (AH : Option Addr) (q cH : Nat) (H : List Int) (F : Nat → List Int → Prop) (gk : Nat) (ov iv : Value) (wr : World) : Prop := ∃ (j mo co : Nat) (Ao : Option Addr) (out : List Int), iv = .int .i64 j ∧ ov = .slice Ao mo co ∧ j ≤ q ∧ gk = q - j ∧ Hid (zL wr w1.heap.size Ao mo co out) ∧ Hid (zL wr Bk AH q cH H) ∧ Hid (bW w1 wr) ∧ Hid (∀ g, (Value.slice Ao mo co).ownBlock = some g → g < Bk ∨ B4 ≤ g) ∧ Hid (B4 ≤ wr.heap.size) ∧ Hid (F j out)
theorem pA {A1 A2 : Option Addr} {n1 c1 n2 c2 B4 Bk : Nat} (h1 : ∀ g, (Value.slice A1 n1 c1).ownBlock = some g → g < Bk ∨ B4 ≤ g) (h2 : ∀ g, (Value.slice A2 n2 c2).ownBlock = some g → Bk ≤ g ∧ g < B4) : (Value.slice A2 n2 c2).ownBlock = none ∨ (Value.slice A2 n2 c2).ownBlock ≠ (Value.slice A1 n1 c1).ownBlock := by
 cases h : (Value.slice A2 n2 c2).ownBlock with
 | none => exact .inl rfl
 | some g =>
  refine .inr fun e => ?_
  have := h1 g e.symm;have := h2 g h;omega
def fO (ns : List Nd) (ds : List Dv) (m : List Int) (d p co : Int) (ls : List Lk) (pr : List Int) (x : Dv) (out : List Int) : Prop := ld (gO ns.length ns ds (yp m) (m.getD d.toNat 0) d.toNat p co ls pr x) out
def oR (w : World) (ns : List Nd) (ds : List Dv) (m : List Int) (d p co : Int) (ls : List Lk) (pr : List Int) (e : Ending) (w' : World) : Prop :=
 (zy ns ds m d p co ≠ 0 ∧ e = .returned (.tuple #[.slice none 0 0, .int .i64 (zy ns ds m d p co)]) ∨ zy ns ds m d p co = 0 ∧ ∃ (A : Option Addr) (k c : Nat) (x : Dv) (out : List Int), ds[d.toNat]? = some x ∧ e = .returned (.tuple #[.slice A k c, .int .i64 0]) ∧ Hid (zL w' w.heap.size A k c out) ∧ Hid (fO ns ds m d p co ls pr x out)) ∧ Hid (Below w.heap.size w w')
theorem tw {ns : List Nd} {ds : List Dv} {m : List Int} {d p co : Int} (h : zy ns ds m d p co = 0) : zU ns ds m = 0 ∧ yS ds.length d p co = 0 ∧ yG m = 0 := by
 unfold zy at h;split at h
 ·next h1 =>
  split at h
  ·next h2 => exact ⟨h1, h2, h⟩
  ·next h2 => exact absurd h h2
 ·next h1 => exact absurd h h1
theorem uh {ns : List Nd} {ds : List Dv} {m s : List Int} (h : zU ns ds m = 0) (hs : s ∈ yp m) : zQ ns ds s = 0 := by
 obtain ⟨h1, h2, h3⟩ := zS h;obtain ⟨h4, h5⟩ := (wP m m.length s).1 hs;unfold zQ;rw [if_neg (by simp [h1]), if_neg (by omega), if_pos];intro p hp;obtain ⟨i, hi, rfl⟩ := List.getElem_of_mem hp;have hs' : s[i]? = some s[i] := List.getElem?_eq_getElem hi;have AE : i < m.length := by omega
 obtain ⟨h6, h7⟩ := h5 i AE;by_cases h8 : m[i]? = some 3
 ·rcases h6 h8 with h9 | h9 <;> rw [hs'] at h9 <;> injection h9 with h9 <;> rw [h9] <;> rfl
 ·have h9 := h7 h8;rw [hs'] at h9;injection h9 with h9;have AZ := h3 (m[i]'AE) (List.getElem_mem AE);rw [List.getElem?_eq_getElem AE] at h8;have Ri : m.getD i 0 = m[i]'AE := by rw [List.getD_eq_getElem?_getD, List.getElem?_eq_getElem AE]; rfl
  rw [Ri] at h9;rw [h9];have Vb : m[i]'AE ≠ 3 := fun e => h8 (by rw [e])
  simp [zl, posB] at AZ ⊢;omega
theorem je {m : List Int} (h : yG m = 0) : (yp m).length ≤ 256 := by
 unfold yG at h;split at h
 ·split at h
  ·cases h
  ·next h1 =>
   unfold yp;rw [tl];exact Nat.le_trans (Nat.pow_le_pow_right (n := 2) (by decide) (show _ ≤ 8 by omega)) (by decide)
 ·cases h
theorem fN (An Ad As Al Ap : Option Addr) (nn cn nd cd n c nl cl np cp : Nat) (ns : List Nd) (ds : List Dv) (m : List Int) (ls : List Lk) (pr : List Int) (d p co : Int) (w : World) (h : yc w An Ad As Al Ap nn cn nd cd n c nl cl np cp ns ds m ls pr) :
 Calls prog 142 #[.agg #[.slice An nn cn, .slice Ad nd cd], .slice As n c, .agg #[.int .i64 d, .int .i64 p], .agg #[.int .i64 co, .slice Al nl cl, .slice Ap np cp]] w (oR w ns ds m d p co ls pr) := by
 obtain ⟨Da, Hl, ES⟩ := h.ln;subst Da;have RI := h.hd.le; have hsm := h.hs.le;have HB := iD (IK.new w #[.slice An ns.length cn, .slice Ad nd cd] #[.int .i64 d, .int .i64 p] #[.int .i64 co, .slice Al nl cl, .slice Ap np cp]);have HH := iD h;clear h
 go_enter func142, ntmps142
 go_wp2_with fail
 generalize World.alloc (World.alloc (World.alloc w _) _) _ = W at *;have HM := iD (HH.below HB.bl);refine (mY An Ad As Al Ap ns.length cn nd cd n c nl cl np cp ns ds m ls pr d p co W HM).mono ?_;rintro e w1 ⟨⟨h1, rfl⟩ | ⟨h1, AR, kR, cR, rfl, hR⟩, AV⟩
 ·have H1 := iD h1;have q : (zy ns ds m d p co != 0) = true := by simpa using h1
  have AQ := iD (HB.later AV);clear h1 AV HB HM
  go_wp2_with fail
  go_ret2;exact ⟨.inl ⟨H1, rfl⟩, AQ.bl⟩
 have AQ := iD (HB.later AV);have Fj := iD (HH.below AQ.bl);have H1 := iD h1;have Ac := iD hR.len;have Ae : kR ≤ 256 := by have := je (tw h1).2.2; have := hR.len; omega
 have Ag := hR.le;obtain ⟨FX, TL, hce⟩ := tw h1;obtain ⟨hd, hp, DT⟩ := rq TL;have Qe := iD FX; have Aa := iD TL;have hsl : m.length = ds.length := (zS FX).2.1;obtain ⟨k, rfl⟩ := Int.eq_ofNat_of_zero_le hd.1;have hk : k < ds.length := by omega
 obtain ⟨x, hx⟩ : ∃ x, ds[k]? = some x := ⟨_, List.getElem?_eq_getElem hk⟩
 have HX := iD hx;clear HB HM AV hce FX TL hx h1;obtain ⟨Nj, AK⟩ : ∃ f : List Int → List Int, f = fun s => vU ns.length ns ds s k p co ls pr x := ⟨_, rfl⟩
 have AP := iD AK;have Sd : Hid (∀ s, (Nj s).length ≤ 7) := fun s => by rw [AK]; exact ir _ _ _ _ _ _ _ _ _ _
 clear AK;obtain ⟨md, AJ⟩ : ∃ y, m.getD k 0 = y := ⟨_, rfl⟩
 have Lb : Hid (m[k]? = some md) := by
  unfold Hid;rw [← AJ, List.getD_eq_getElem?_getD, List.getElem?_eq_getElem (by omega)]; rfl
 have AL := iD AJ;clear AJ;obtain ⟨bs, GI, md', rfl, QK, hmd', LM⟩ := Fj.hs.at1 (k := k) (by omega);obtain rfl : md = md' := by have := Lb.out; rw [this] at hmd'; exact Option.some.inj hmd'
 have Ab := iD LM;clear LM hmd';have ER := AQ.bl.size
 go_wp2_with fail
 go_loopg [12, 30] kR (dy w1 (mP Nj (fun h => h ≠ 7 ∨ md = p) (yp m)) kR)
 case atStart => exact ⟨0, 0, 0, none, [], rfl, rfl, Nat.zero_le _, rfl, World.ownsRow_nil _ _ _ _, Below.refl _ _, mP.start⟩
 case round =>
  obtain ⟨kk, mo, Bi, Ao, out, rfl, rfl, Jo, rfl, hO, AU, Ei⟩ := hrel;by_cases hlt : kk < kR
  ·obtain ⟨br, Qt, s, Qo, Nw, rfl, Af, hs, AX, Uc⟩ := (hR.below AU lR).at hlt;have Hd : Hid (zQ ns ds s = 0) := uh Qe (List.mem_of_getElem? hs);have HS := iD hs;have Wm := iD (AQ.later AU);have NT := iD (Fj.below AU);have SA := iD (Uc.more AU.size);obtain ⟨⟨k0, k1⟩, ⟨o0, o1⟩, g0, g1, g2⟩ := Wm.cells;clear hs Uc;go_upto_region 8 with (fail);clear AX;obtain ⟨x', hx', Om⟩ := eXx (s := s) (As := Qo) (n := s.length) (c := Nw) ⟨NT.hn, NT.hd, SA, NT.hl, NT.hp, NT.la, NT.sn, NT.sd⟩ Hd (show yS nd (k : Int) p co = 0 by rw [← Hl]; exact Aa);simp only [Int.toNat_natCast] at hx' Om;obtain rfl : x = x' := by have := HX.out; rw [this] at hx'; exact Option.some.inj hx'
   rw [show vU ns.length ns ds s k p co ls pr x = Nj s by rw [AP.out]] at Om;have Lf := iD Om;clear Om hx'
   go_wp2_with fail
   clear k0 k1 o0 o1 g0 g1 g2;refine Lf.mono ?_;rintro e w4 ⟨AH, cH, rfl, KU, Be⟩;obtain ⟨q, hq⟩ : ∃ q, (Nj s).length = q := ⟨_, rfl⟩
   have AW : q ≤ 7 := by rw [← hq]; exact Sd s
   rw [hq] at KU ⊢;have HQ := iD hq;obtain ⟨Bk, Rh⟩ := eX wr.heap.size;obtain ⟨B4, Tj⟩ := eX w4.heap.size;have BC := iD (hO.later Be);have Sy := iD (AU.trans (Be.mono AU.size));have Wx : Hid (∀ g, (Value.slice Ao mo Bi).ownBlock = some g → g < Bk ∨ B4 ≤ g) := fun g h => .inl (by rw [Rh]; exact (hO.lt g h).2)
   have Tz : Hid (∀ g, (Value.slice AH q cH).ownBlock = some g → Bk ≤ g ∧ g < B4) := fun g h => by rw [Rh, Tj]; exact KU.lt g h
   have Ws : Hid (B4 ≤ w4.heap.size) := by unfold Hid; omega
   have Pg := iD (mP.two (s := s) Ei);rw [← Rh] at KU;have AY : w1.heap.size ≤ B4 := by rw [Tj]; exact Sy.size
   clear hO AU Ei Be Lf hq Tj Rh Wm NT SA Hd
   go_wp2_with fail
   go_loopg [12, 40] q (dx w1 B4 Bk AH q cH (Nj s) (uj Nj (fun h => h ≠ 7 ∨ md = p) (yp m) kk s))
   case atStart => exact ⟨0, mo, Bi, Ao, out, rfl, rfl, Nat.zero_le _, rfl, BC, KU, Sy, Wx, Ws, Pg⟩
   case round =>
    clear BC KU Sy Wx Ws Pg;clear mo Bi Ao out;obtain ⟨j, mo, Bi, Ao, out, rfl, rfl, hj, rfl, hO, KU, AU, Td, IM, Ei⟩ := hrel;by_cases Mk : j < q
    ·obtain ⟨b, off, xh, rfl, hb, AO, hch⟩ := KU.sl.at1 Mk;have Wm := iD (AQ.later AU);have GH : Hid ((wr.cell? ⟨w.heap.size + 1, 0, none⟩ = some (.int .i64 k) ∧ wr.cell? ⟨w.heap.size + 1, 1, none⟩ = some (.int .i64 p)) ∧ wr.cell? ⟨bs, GI + k, none⟩ = some (.int .i64 md)) := ⟨Wm.cells.2.1, (AU.cell (p := ⟨bs, GI + k, none⟩) QK).trans Ab⟩;have EX := iD (wZ Ao mo Bi wr.heap.size out xh wr.drew hO.sl);have AG := iD AO;have QD : mo ≤ 2000 := by have h1 := Ei.1; have h2 := hO.len; omega
     have Iu := hO.sl.le;have Gx : k < n := by omega
     clear AO Wm;go_upto_region 11 with (fail);rcases hm : vV out xh with _ | _
     ·rw [hm] at EX;have HN := iD ((ru _ _).1 hm);clear hm;by_cases h7 : xh = 7
      ·subst h7;by_cases AB : md = p
       ·have qp : (md == p) = true := by simpa using AB
        have HP := iD (Ei.put AG HN (.inr AB));refine fv (fun W' => ((W'.cell? ⟨w.heap.size + 1, 0, none⟩ = some (.int .i64 k) ∧ W'.cell? ⟨w.heap.size + 1, 1, none⟩ = some (.int .i64 p)) ∧ W'.cell? ⟨bs, GI + k, none⟩ = some (.int .i64 md))) [] ?_ fun AA => ?_
        ·exact GH.out
        try dsimp only at AA
        refine tk 0 44 (mf 18 1) AA ?_;refine tk 1 45 (mf 18 2) AA ?_;refine tb 2 (mf 18 3) fun K hK => ?_
        (go_simp; refine EX.mono ?_; rintro e w6 ⟨rfl, rfl⟩; go_simp)
        refine hK _ _ (fun _ => GH.out) fun p => (fun AA => ?_) (p rfl)
        clear p hK K;(try dsimp only at AA);refine tk 3 47 (mf 18 4) AA ?_;refine tk 4 48 (mf 18 5) AA ?_;refine tk 5 49 (mf 18 6) AA ?_;refine tk 6 50 (mf 18 7) AA ?_;refine tk 7 51 (mf 18 8) AA ?_;refine tk 8 52 (mf 18 9) AA ?_;refine tk 9 53 (mf 18 10) AA ?_;refine tk 10 54 (mf 18 11) AA ?_;refine tk 11 55 (mf 18 12) AA ?_;refine tk 12 56 (mf 18 13) AA ?_;refine tk 13 57 (mf 18 14) AA ?_;refine tk 14 58 (mf 18 15) AA ?_;refine tk 15 59 (mf 18 16) AA ?_;refine tk 16 60 (mf 18 17) AA ?_;refine tk 17 61 (mf 18 18) AA ?_;refine tK ?_;have PV : Hid (zL wr.drew w1.heap.size Ao mo Bi out) := hO.out;have Sc : Hid (zL wr.drew Bk (some ⟨b, off, none⟩) q cH (Nj s)) := KU.out;have Li : Hid (Below w1.heap.size w1 wr.drew) := AU.drew;have PI : Hid (B4 ≤ wr.drew.heap.size) := IM.out;clear hO KU AU IM GH EX hch;generalize World.drew wr = wq at *
        go_wp2_with (at_builtin; go_must (refine zM rfl (.tmp 62) (.tmp 64) rfl yU (by rfl) (PV.alloc _) (by rfl) (Sl.newest (n := 1) (by simp) (by rfl) (by decide)) (by simp [Value.oneCell']) (by omega) (by omega) (by have := Li.size; simp; omega) ?_; intro A' cap' w7 BQ CQ Cy; have Ii := iD BQ; have Ca := iD CQ; have UH := iD Cy; clear BQ CQ Cy))
        go_roundg (q - (j + 1))
        case rel =>
         refine ⟨j + 1, mo + 1, cap', A', out ++ [7], by go_num, rfl, by omega, rfl, ?_, ?_, ?_, ?_, ?_, HP⟩
         ·have := Ii.out;unfold Hid zL;rw [ze];exact this
         ·exact (Sc.alloc _).kept Ca (pA Td Tz)
         ·refine (Li.alloc Li.size _).trans ⟨Ca.os, Ca.tape, Ca.output, Ca.size, fun i hi => Ca.block i (by have := Li.size; simp; omega) (fun e => ?_)⟩;have := (PV.lt i e.symm).1;omega
         ·intro gq Mm;rcases UH.out with e | e
          ·exact Td gq (by rw [← e]; exact Mm)
          ·rw [e] at Mm;simp at Mm;have := PI.out;exact .inr (by omega)
         ·have h1 := Ca.size; have h2 := PI.out;unfold Hid;simp at h1;omega
        case measure => omega
       ·have qp : (md == p) = false := by simpa using AB
        have HP := iD (Ei.pass AG (.inr fun h => by rcases h with h | h; exact h rfl; exact AB h));refine fv (fun W' => ((W'.cell? ⟨w.heap.size + 1, 0, none⟩ = some (.int .i64 k) ∧ W'.cell? ⟨w.heap.size + 1, 1, none⟩ = some (.int .i64 p)) ∧ W'.cell? ⟨bs, GI + k, none⟩ = some (.int .i64 md))) [] ?_ fun AA => ?_
        ·exact GH.out
        try dsimp only at AA
        refine tk 0 44 (mf 18 1) AA ?_;refine tk 1 45 (mf 18 2) AA ?_;refine tb 2 (mf 18 3) fun K hK => ?_
        (go_simp; refine EX.mono ?_; rintro e w6 ⟨rfl, rfl⟩; go_simp)
        refine hK _ _ (fun _ => GH.out) fun p => (fun AA => ?_) (p rfl)
        clear p hK K;(try dsimp only at AA);refine tk 3 47 (mf 18 4) AA ?_;refine tk 4 48 (mf 18 5) AA ?_;refine tk 5 49 (mf 18 6) AA ?_;refine tk 6 50 (mf 18 7) AA ?_;refine tk 7 51 (mf 18 8) AA ?_;refine tk 8 52 (mf 18 9) AA ?_;refine tk 9 53 (mf 18 10) AA ?_;refine tk 10 54 (mf 18 11) AA ?_;refine tk 11 55 (mf 18 12) AA ?_;refine tk 12 56 (mf 18 13) AA ?_;refine tk 13 57 (mf 18 14) AA ?_;refine tk 14 58 (mf 18 15) AA ?_;refine tk 15 59 (mf 18 16) AA ?_;refine tk 16 60 (mf 18 17) AA ?_;refine tk 17 61 (mf 18 18) AA ?_;refine tK ?_;have PV : Hid (zL wr.drew w1.heap.size Ao mo Bi out) := hO.out;have Sc : Hid (zL wr.drew Bk (some ⟨b, off, none⟩) q cH (Nj s)) := KU.out;have Li : Hid (Below w1.heap.size w1 wr.drew) := AU.drew;have PI : Hid (B4 ≤ wr.drew.heap.size) := IM.out;clear hO KU AU IM GH EX hch;generalize World.drew wr = wq at *
        go_wp2_with fail
        go_roundg (q - (j + 1))
        ·exact ⟨j + 1, mo, Bi, Ao, out, by go_num, rfl, by omega, rfl, PV, Sc, Li, Td, PI, HP⟩
        omega
      ·have q7 : (xh != 7) = true := by simpa using h7
       have HP := iD (Ei.put AG HN (.inl h7));refine fv (fun W' => ((W'.cell? ⟨w.heap.size + 1, 0, none⟩ = some (.int .i64 k) ∧ W'.cell? ⟨w.heap.size + 1, 1, none⟩ = some (.int .i64 p)) ∧ W'.cell? ⟨bs, GI + k, none⟩ = some (.int .i64 md))) [] ?_ fun AA => ?_
       ·exact GH.out
       try dsimp only at AA
       refine tk 0 44 (mf 18 1) AA ?_;refine tk 1 45 (mf 18 2) AA ?_;refine tb 2 (mf 18 3) fun K hK => ?_
       (go_simp; refine EX.mono ?_; rintro e w6 ⟨rfl, rfl⟩; go_simp)
       refine hK _ _ (fun _ => GH.out) fun p => (fun AA => ?_) (p rfl)
       clear p hK K;(try dsimp only at AA);refine tk 3 47 (mf 18 4) AA ?_;refine tk 4 48 (mf 18 5) AA ?_;refine tk 5 49 (mf 18 6) AA ?_;refine tk 6 50 (mf 18 7) AA ?_;refine tk 7 51 (mf 18 8) AA ?_;refine ts 8 52 (mf 18 9) AA ?_;refine ts 9 53 (mf 18 10) AA ?_;refine ts 10 54 (mf 18 11) AA ?_;refine ts 11 55 (mf 18 12) AA ?_;refine ts 12 56 (mf 18 13) AA ?_;refine ts 13 57 (mf 18 14) AA ?_;refine ts 14 58 (mf 18 15) AA ?_;refine ts 15 59 (mf 18 16) AA ?_;refine tk 16 60 (mf 18 17) AA ?_;refine tk 17 61 (mf 18 18) AA ?_;refine tK ?_;have PV : Hid (zL wr.drew w1.heap.size Ao mo Bi out) := hO.out;have Sc : Hid (zL wr.drew Bk (some ⟨b, off, none⟩) q cH (Nj s)) := KU.out;have Li : Hid (Below w1.heap.size w1 wr.drew) := AU.drew;have PI : Hid (B4 ≤ wr.drew.heap.size) := IM.out;clear hO KU AU IM GH EX hch;generalize World.drew wr = wq at *
       go_wp2_with (at_builtin; go_must (refine zM rfl (.tmp 62) (.tmp 64) rfl yU (by rfl) (PV.alloc _) (by rfl) (Sl.newest (n := 1) (by simp) (by rfl) (by decide)) (by simp [Value.oneCell']) (by omega) (by omega) (by have := Li.size; simp; omega) ?_; intro A' cap' w7 BQ CQ Cy; have Ii := iD BQ; have Ca := iD CQ; have UH := iD Cy; clear BQ CQ Cy))
       go_roundg (q - (j + 1))
       case rel =>
        refine ⟨j + 1, mo + 1, cap', A', out ++ [xh], by go_num, rfl, by omega, rfl, ?_, ?_, ?_, ?_, ?_, HP⟩
        ·have := Ii.out;unfold Hid zL;rw [ze];exact this
        ·exact (Sc.alloc _).kept Ca (pA Td Tz)
        ·refine (Li.alloc Li.size _).trans ⟨Ca.os, Ca.tape, Ca.output, Ca.size, fun i hi => Ca.block i (by have := Li.size; simp; omega) (fun e => ?_)⟩;have := (PV.lt i e.symm).1;omega
        ·intro gq Mm;rcases UH.out with e | e
         ·exact Td gq (by rw [← e]; exact Mm)
         ·rw [e] at Mm;simp at Mm;have := PI.out;exact .inr (by omega)
        ·have h1 := Ca.size; have h2 := PI.out;unfold Hid;simp at h1;omega
       case measure => omega
     ·rw [hm] at EX;have HP := iD (Ei.pass AG (.inl ((rv _ _).1 hm)));clear hm;refine fv (fun W' => ((W'.cell? ⟨w.heap.size + 1, 0, none⟩ = some (.int .i64 k) ∧ W'.cell? ⟨w.heap.size + 1, 1, none⟩ = some (.int .i64 p)) ∧ W'.cell? ⟨bs, GI + k, none⟩ = some (.int .i64 md))) [] ?_ fun AA => ?_
      ·exact GH.out
      try dsimp only at AA
      refine tk 0 44 (mf 18 1) AA ?_;refine tk 1 45 (mf 18 2) AA ?_;refine tb 2 (mf 18 3) fun K hK => ?_
      (go_simp; refine EX.mono ?_; rintro e w6 ⟨rfl, rfl⟩; go_simp)
      refine hK _ _ (fun _ => GH.out) fun p => (fun AA => ?_) (p rfl)
      clear p hK K;(try dsimp only at AA);refine tk 3 47 (mf 18 4) AA ?_;refine tk 4 48 (mf 18 5) AA ?_;refine ts 5 49 (mf 18 6) AA ?_;refine ts 6 50 (mf 18 7) AA ?_;refine ts 7 51 (mf 18 8) AA ?_;refine ts 8 52 (mf 18 9) AA ?_;refine ts 9 53 (mf 18 10) AA ?_;refine ts 10 54 (mf 18 11) AA ?_;refine ts 11 55 (mf 18 12) AA ?_;refine ts 12 56 (mf 18 13) AA ?_;refine ts 13 57 (mf 18 14) AA ?_;refine ts 14 58 (mf 18 15) AA ?_;refine ts 15 59 (mf 18 16) AA ?_;refine ts 16 60 (mf 18 17) AA ?_;refine tk 17 61 (mf 18 18) AA ?_;refine tK ?_;have PV : Hid (zL wr.drew w1.heap.size Ao mo Bi out) := hO.out;have Sc : Hid (zL wr.drew Bk (some ⟨b, off, none⟩) q cH (Nj s)) := KU.out;have Li : Hid (Below w1.heap.size w1 wr.drew) := AU.drew;have PI : Hid (B4 ≤ wr.drew.heap.size) := IM.out;clear hO KU AU IM GH EX hch;generalize World.drew wr = wq at *
      go_wp2_with fail
      go_roundg (q - (j + 1))
      ·exact ⟨j + 1, mo, Bi, Ao, out, by go_num, rfl, by omega, rfl, PV, Sc, Li, Td, PI, HP⟩
      omega
    ·obtain rfl : j = q := by omega
     have HD := iD (Ei.done HQ AW HS);have Cw : decide (j < j) = false := by simp
     go_wp2_with fail
     go_roundg (kR - (kk + 1))
     ·exact ⟨kk + 1, mo, Bi, Ao, out, by go_num, rfl, by omega, rfl, hO, AU, HD⟩
     omega
  ·obtain rfl : kk = kR := by omega
   have Cw : decide (kk < kk) = false := by simp
   have QD : mo ≤ 2000 := by have h1 := Ei.1; have h2 := hO.len; omega
   go_wp2_with fail
   refine (oh Ao mo Bi w1.heap.size out wr hO (by omega)).mono ?_;rintro e w5 ⟨rfl, ET, GL⟩;have Lj : Hid (Below w.heap.size w w5) := (AQ.bl.trans (AU.mono AQ.bl.size)).trans ⟨GL.os, GL.tape, GL.output, GL.size, fun q hq => GL.block q (by have := AU.size; omega) (fun e => by have := (hO.lt q e.symm).1; omega)⟩
   go_wp2_with fail
   go_ret2;refine ⟨.inr ⟨H1, Ao, mo, Bi, x, wX out, by simpa using HX.out, rfl, ET.mono ER, ol Ei.2.1, tJ _, fun h => ?_⟩, Lj⟩;rw [kh, Ei.2.2 h, List.take_of_length_le (by rw [Ac.out]; exact Nat.le_refl _)];simp only [gO, Int.toNat_natCast, AL.out, AP.out]
end Go.Proofs.YtkkobemhbicjgaaGreatDoor
