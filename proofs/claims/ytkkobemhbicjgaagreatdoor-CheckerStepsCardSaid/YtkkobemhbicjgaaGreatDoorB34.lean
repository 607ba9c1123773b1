import Derived.Test.YtkkobemhbicjgaaGreatDoorB33
set_option maxRecDepth 100000
set_option maxHeartbeats 16000000
namespace Go.Proofs.YtkkobemhbicjgaaGreatDoor
open Go.RowKit Tryz
variable {w : World} {B c n size x : Nat} {A : Option Addr} {xs : List Value}
def QS : Nat → Value
 | 0 => .func (.func 112) #[] #[]
 | 1 => .func (.func 112) #[] #[]
 | 2 => .func (.func 113) #[] #[]
 | 3 => .func (.func 114) #[] #[]
 | 4 => .func (.func 115) #[] #[]
 | _ => .func (.func 116) #[] #[]
def gY : Array Value := #[.int .i64 1, QS 0, .int .i64 2, QS 1, .int .i64 3, QS 2, .int .i64 4, QS 3, .int .i64 5, QS 4, .int .i64 6, QS 5]
theorem fm {b : Nat} {t : TypeId} (h : AJ w b t gY) {j : Nat} (hj : j < 6) : w.cell? ⟨b, j * 2, none⟩ = some (.int .i64 ((j : Int) + 1)) ∧ w.cell? ⟨b, j * 2 + 1, none⟩ = some (QS j) := by
 rw [h.cell, h.cell];rcases (show j = 0 ∨ j = 1 ∨ j = 2 ∨ j = 3 ∨ j = 4 ∨ j = 5 by omega) with rfl | rfl | rfl | rfl | rfl | rfl <;> exact ⟨rfl, rfl⟩
theorem kq (w : World) : Calls prog 76 #[] w fun e w' => ∃ b : Nat, e = .returned (.slice (some ⟨b, 0, none⟩) 6 6) ∧ Hid (AJ w' b 129 gY) ∧ Hid (bW w w') ∧ Hid (w.heap.size ≤ b) := by
 go_enter func76, ntmps76
 go_wp2_with fail
 go_ret;exact ⟨_, rfl, AJ.new w 129 gY, (Below.refl _ _).alloc lR _, Nat.le_refl _⟩
theorem Sl.ne3 {i : Nat} {u : Value} (h : Sl w B size A n c xs) (hx : 0 < n → ∀ b off, A = some ⟨b, off, none⟩ → b ≠ x) : Sl (w.setCell ⟨x, i, none⟩ u) B size A n c xs :=
 ⟨h.1, h.2.1, h.2.2.1, h.2.2.2.1, fun hn => by
  obtain ⟨b, off, rfl, hb, hc⟩ := h.2.2.2.2 hn;exact ⟨b, off, rfl, hb, fun j v hv => (World.cell?_setCell_far w ⟨x, i, none⟩ ⟨b, off + j, none⟩ u (fun e => hx hn b off rfl e.symm)).trans (hc j v hv)⟩⟩
theorem tN {a b d e f : Value} (h : BI w size A n c xs) (hx : 0 < n → ∀ b off, A = some ⟨b, off, none⟩ → b ≠ x) : Sl (st5 w x a b d e f) (st5 w x a b d e f).heap.size size A n c xs := by
 unfold st5;have h5 := (((((h.ne3 (i := 0) (u := a) hx).ne3 (i := 1) (u := b) hx).ne3 (i := 2) (u := d) hx).ne3 (i := 3) (u := e) hx).ne3 (i := 4) (u := f) hx);exact h5.more (by simp [World.setCell])
theorem rI {n' : Nat} {A' : Option Addr} (h : Ji B A A' n n') (hs : BI w size A n c xs) (h1 : w.heap.size ≤ x) (h2 : x < B) : 0 < n' → ∀ b off, A' = some ⟨b, off, none⟩ → b ≠ x := by
 intro hn b off e;rcases h with ⟨rfl, rfl⟩ | h
 ·obtain ⟨b', off', e', hb, -⟩ := hs.2.2.2.2 hn;rw [e] at e'; injection e' with e'; injection e' with e1 e2
  omega
 ·have := h b off e; omega
theorem oG {B' n' : Nat} {A' : Option Addr} (h : Ji B' A A' n n') (hB : B ≤ B') : Ji B A A' n n' := h.imp id fun h b off e => Nat.le_trans hB (h b off e)
def RlR (w : World) (L : List (TypeId × Array Value)) (rb k : Nat) (gk : Nat) (iv : Value) (wr : World) : Prop := ∃ j : Nat, iv = .int .i64 j ∧ j < k ∧ gk = 6 - j ∧ Hid (Bw w L wr) ∧ Hid (AJ wr rb 129 gY)
theorem fk {j : Nat} (hj : j < 6) : ∃ f : FuncId, QS j = .func (.func f) #[] #[] ∧ (∀ (args : Array Value) (W : World), (callFunc f args).run prog W = .ok (.enter f args) W) ∧ ∀ (kk : Nat), j + 1 = kk → ∀ (An Ad As Al Ap : Option Addr) (nn cn nd cd n c nl cl np cp : Nat) (ns : List Nd) (ds : List Dv) (m : List Int) (ls : List Lk) (pr : List Int) (co d no p q : Int) (V : World), yc V An Ad As Al Ap nn cn nd cd n c nl cl np cp ns ds m ls pr → uL ns ds ⟨m, ls, pr⟩ → zc ns.length ds.length ⟨kk, d, no, p, q⟩ = 0 → 0 ≤ co ∧ co ≤ 7 →
 Calls prog f #[.agg #[.slice An nn cn, .slice Ad nd cd], .agg #[.slice As n c, .int .i64 co, .slice Al nl cl, .slice Ap np cp, .bool false], .agg #[.int .i64 kk, .int .i64 d, .int .i64 no, .int .i64 p, .int .i64 q]] V (tF V As Al Ap n nl np co (zn ns ds co ⟨m, ls, pr⟩ ⟨kk, d, no, p, q⟩)) := by
 rcases (show j = 0 ∨ j = 1 ∨ j = 2 ∨ j = 3 ∨ j = 4 ∨ j = 5 by omega) with rfl | rfl | rfl | rfl | rfl | rfl
 ·exact ⟨_, rfl, enters_of func112 (by kernel_rfl) rfl, fun kk hk An Ad As Al Ap nn cn nd cd n c nl cl np cp ns ds m ls pr co d no p q V h1 h2 h3 h4 => by subst hk; exact sY An Ad As Al Ap nn cn nd cd n c nl cl np cp ns ds m ls pr co _ d no p q V h1 h2 h3 h4 (.inl rfl)⟩
 ·exact ⟨_, rfl, enters_of func112 (by kernel_rfl) rfl, fun kk hk An Ad As Al Ap nn cn nd cd n c nl cl np cp ns ds m ls pr co d no p q V h1 h2 h3 h4 => by subst hk; exact sY An Ad As Al Ap nn cn nd cd n c nl cl np cp ns ds m ls pr co _ d no p q V h1 h2 h3 h4 (.inr rfl)⟩
 ·exact ⟨_, rfl, enters_of func113 (by kernel_rfl) rfl, fun kk hk An Ad As Al Ap nn cn nd cd n c nl cl np cp ns ds m ls pr co d no p q V h1 h2 h3 h4 => by subst hk; exact ib An Ad As Al Ap nn cn nd cd n c nl cl np cp ns ds m ls pr co _ d no p q V h1 h2 h3 h4 rfl⟩
 ·exact ⟨_, rfl, enters_of func114 (by kernel_rfl) rfl, fun kk hk An Ad As Al Ap nn cn nd cd n c nl cl np cp ns ds m ls pr co d no p q V h1 h2 h3 h4 => by subst hk; exact mV An Ad As Al Ap nn cn nd cd n c nl cl np cp ns ds m ls pr co _ d no p q V h1 h2 h3 h4 rfl⟩
 ·exact ⟨_, rfl, enters_of func115 (by kernel_rfl) rfl, fun kk hk An Ad As Al Ap nn cn nd cd n c nl cl np cp ns ds m ls pr co d no p q V h1 h2 h3 h4 => by subst hk; exact jB An Ad As Al Ap nn cn nd cd n c nl cl np cp ns ds m ls pr co _ d no p q V h1 h2 h3 h4 rfl⟩
 ·exact ⟨_, rfl, enters_of func116 (by kernel_rfl) rfl, fun kk hk An Ad As Al Ap nn cn nd cd n c nl cl np cp ns ds m ls pr co d no p q V h1 h2 h3 h4 => by subst hk; exact jK An Ad As Al Ap nn cn nd cd n c nl cl np cp ns ds m ls pr co _ d no p q V h1 h2 h3 h4 rfl⟩
theorem vB (An Ad As Al Ap : Option Addr) (nn cn nd cd n c nl cl np cp : Nat) (ns : List Nd) (ds : List Dv) (m : List Int) (ls : List Lk) (pr : List Int) (co k d no p q : Int) (w : World) (h : yc w An Ad As Al Ap nn cn nd cd n c nl cl np cp ns ds m ls pr) (CP : uL ns ds ⟨m, ls, pr⟩) (hx : zc ns.length ds.length ⟨k, d, no, p, q⟩ = 0) (DT : 0 ≤ co ∧ co ≤ 7) :
 Calls prog 49 #[.agg #[.slice An nn cn, .slice Ad nd cd], .agg #[.slice As n c, .int .i64 co, .slice Al nl cl, .slice Ap np cp, .bool false], .agg #[.int .i64 k, .int .i64 d, .int .i64 no, .int .i64 p, .int .i64 q]] w (tF w As Al Ap n nl np co (zn ns ds co ⟨m, ls, pr⟩ ⟨k, d, no, p, q⟩)) := by
 obtain ⟨Da, Hl, ES⟩ := h.ln;have RL : pr.length = np := h.hp.len (fun _ => rfl) (by decide);have HH := iD h;have HB := iD (Bw.new4 w (30, #[.slice An nn cn, .slice Ad nd cd]) (96, #[.slice As n c, .int .i64 co, .slice Al nl cl, .slice Ap np cp, .bool false]) (43, #[.int .i64 k, .int .i64 d, .int .i64 no, .int .i64 p, .int .i64 q]) (96, #[.slice none 0 0, .int .i64 0, .slice none 0 0, .slice none 0 0, .bool false]));obtain ⟨Dr, CW, GX, IP, Jl⟩ := wN hx;dsimp only at Dr CW GX IP Jl;obtain ⟨GM, hsl, -⟩ := zS CP.s;have He := iD (xk.of GM);have Bv := iD CP;have Bq : nn ≤ 32 := by have := He.nl; omega
 have AW : nd ≤ 64 := by have := He.dl; omega
 dsimp only at hsl;have EX := iD DT;have AU := iD hx;clear h CP hx GM DT
 go_enter func49, ntmps49
 go_upto_region 1 with (fail);dsimp only at HB;generalize World.alloc (World.alloc (World.alloc (World.alloc w _) _) _) _ = W at *;rw [show w.heap.size + 1 + 1 = w.heap.size + 2 from rfl, show w.heap.size + 2 + 1 = w.heap.size + 3 from rfl];have HM := iD (HH.below HB.l);obtain ⟨kk, rfl⟩ := Int.eq_ofNat_of_zero_le (show 0 ≤ k by omega);have AP : 1 ≤ kk := by omega
 have TT : kk ≤ 6 := by omega
 clear Dr CW GX IP Jl HM
 go_wp2_with fail
 refine (kq W).mono ?_;rintro e w1 ⟨rb, rfl, hr, hb, -⟩;have AQ := iD (HB.later hb);have Er := iD hr.out;clear hr hb HB;go_upto_region 2 with (fail);refine xY [(5, 0), (0, 1), (0, 0), (0, 1), (0, 0), (0, 1), (1, 0), (0, 2), (17, 1), (0, 0)] 13 (6) (RlR w [(30, #[.slice An nn cn, .slice Ad nd cd]), (96, #[.slice As n c, .int .i64 co, .slice Al nl cl, .slice Ap np cp, .bool false]), (43, #[.int .i64 kk, .int .i64 d, .int .i64 no, .int .i64 p, .int .i64 q]), (96, #[.slice none 0 0, .int .i64 0, .slice none 0 0, .slice none 0 0, .bool false])] rb kk) (by (try dsimp only [gt]); exact ⟨0, rfl, AP, rfl, AQ, Er⟩) (by kernel_rfl) ?_;intro u1 AV gk wr a hrel ha J1 K1 EB ME;dsimp only [za, Go.Proofs.YtkkobemhbicjgaaGreatDoor.v1, Nat.reduceAdd] at ha;subst ha;clear AQ Er;obtain ⟨j, rfl, Eh, rfl, hB, hR⟩ := hrel;have HB := iD hB.out; have HR := iD hR.out;clear hB hR;have AA : j < 6 := by omega
 have q1 : decide ((j : Int) < 6) = true := by simp; omega
 obtain ⟨e0, e1⟩ := fm HR AA;obtain ⟨AB, AG, Mo, AH⟩ := fk AA;rw [AG] at e1;have AO := iD AH;have Ik := iD Mo;clear AG AH Mo;go_upto_region 4 with (fail);clear e0 e1;have BS := iD (HB.later ((Below.refl _ wr).alloc lR (.cells #[.int .i64 ((j : Int) + 1), .func (.func AB) #[] #[]] 129)));have AL := iD (HR.alloc (.cells #[.int .i64 ((j : Int) + 1), .func (.func AB) #[] #[]] 129));have Ib := iD (AJ.new wr 129 #[.int .i64 ((j : Int) + 1), .func (.func AB) #[] #[]]);clear HB HR;generalize World.alloc wr _ = V at *;obtain ⟨xb, AE⟩ := eX wr.heap.size;rw [← AE] at Ib ⊢;clear AE q1;have x0 := Ib.c0;have s0 := BS.b2.c0;by_cases hm : j + 1 = kk; rotate_left
 ·have q2 : (((j : Int) + 1) == (kk : Int)) = false := by simp; omega
  have hw : IntKind.i64.wrap ((j : Int) + 1) = (j : Int) + 1 := IntWalk.i64_in _ (by omega)
  go_wp2_with fail
  clear q2 x0 s0;refine Handed.intro (6 - (j + 1)) (by omega) (EB _ _ _ (wW.back 13 ?_ (by kernel_rfl)));dsimp only [gt];exact ⟨j + 1, by go_num, by omega, rfl, BS, AL⟩
 have q2 : (((j : Int) + 1) == (kk : Int)) = true := by simp; omega
 go_upto_region 5 with (fail);clear q2 x0 s0 AL;have x1 := Ib.c1;have AK : Hid (w.heap.size + 4 ≤ V.heap.size) := BS.b3.lt;have OG := iD (HH.below BS.l);obtain ⟨k0, k1⟩ := BS.b0.d2;obtain ⟨g0, g1, g2, g3, g4⟩ := BS.b1.d5;obtain ⟨s0, s1, s2, s3, s4⟩ := BS.b2.d5;have Pk := iD (AO kk (by omega) An Ad As Al Ap nn cn nd cd n c nl cl np cp ns ds m ls pr co d no p q V OG Bv AU EX);have Mo := Ik.out;clear hm Eh AA AO
 go_wp2_with fail
 refine Pk.mono ?_;rintro e w5 ⟨A1, A2, Al', Ap', n1, c1, n2, c2, nl', cl', np', cp', rfl, hS, hF, hb⟩;have Cf := iD (BS.later hb);have EW := iD hS.out;have Qh := iD hF.out;clear hS hF hb Pk BS Mo x1 Ib k0 k1 g0 g1 g2 g3 g4 s0 s1 s2 s3 s4;obtain ⟨O, hO⟩ := eX (zn ns ds co ⟨m, ls, pr⟩ ⟨kk, d, no, p, q⟩);rw [← hO] at EW ⊢;have Cj := iD hO;clear hO;have d0 := Cf.b3.cell 0;have y0 := Cf.b3.frozen 0;have d1 := Cf.b3.cell 1;have y1 := Cf.b3.frozen 1;have d2 := Cf.b3.cell 2;have y2 := Cf.b3.frozen 2;have d3 := Cf.b3.cell 3;have y3 := Cf.b3.frozen 3;have d4 := Cf.b3.cell 4;have y4 := Cf.b3.frozen 4;have HE := iD (Cf.st5 (.slice A2 n2 c2) (.int .i64 co) (.slice Al' nl' cl') (.slice Ap' np' cp') (.bool O.ov))
 have CZ : Hid (O.e = 0 → xF (st5 w5 (w.heap.size + 3) (.slice A2 n2 c2) (.int .i64 co) (.slice Al' nl' cl') (.slice Ap' np' cp') (.bool O.ov)) A1 A2 Al' Ap' n1 c1 n2 c2 nl' cl' np' cp' ⟨O.h, O.t, true⟩) := fun h0 => by
  obtain ⟨t1, t2, t3, t4⟩ := EW h0;obtain ⟨f1, f2, f3, f4⟩ := Qh.out;have hz := AK.out;exact ⟨tN t1 (rI f1 (Sl.nil w w.heap.size 1) (by omega) (by omega)), tN t2 (rI f2 HH.hs (by omega) (by omega)), tN t3 (rI f3 HH.hl (by omega) (by omega)), tN t4 (rI f4 HH.hp (by omega) (by omega))⟩
 unfold st5 at HE CZ
 go_wp2_with fail
 clear d0 d1 d2 d3 d4 y0 y1 y2 y3 y4;generalize World.setCell (World.setCell (World.setCell (World.setCell (World.setCell w5 _ _) _ _) _ _) _ _) _ _ = z at *;obtain ⟨q0, q1, q2, q3, q4⟩ := HE.b3.d5;have Kq : w.heap.size ≤ V.heap.size := by have := AK.out; omega
 exact bodyPost_ret (v := .tuple #[.slice A1 n1 c1, .agg #[.slice A2 n2 c2, .int .i64 co, .slice Al' nl' cl', .slice Ap' np' cp', .bool O.ov], .int .i64 O.e]) (by simp [results, results49, go_sem, q0, q1, q2, q3, q4]) rfl ⟨_, _, _, _, _, _, _, _, _, _, _, _, by rw [← Cj.out], by rw [← Cj.out]; exact CZ, ⟨oG Qh.1 Kq, oG Qh.2.1 Kq, oG Qh.2.2.1 Kq, oG Qh.2.2.2 Kq⟩, HE.l⟩
variable {p : Int} {c1 c2 cl cp d m n1 n2 nl np size x : Nat} {w : World} {A A' A1 A2 Al Ap : Option Addr} {xs : List Value} {o : So}
def yC : Int → List Bool → List Int
 | _, [] => []
 | k, b :: t => xT b k ++ yC (k + 1) t
theorem sZ (b : Bool) : ∀ (l : List Bool) (k : Int), yC k (l ++ [b]) = yC k l ++ xT b (k + l.length)
 | [], k => by simp [yC]
 | a :: t, k => by
  rw [List.cons_append, yC, sZ b t, yC, List.append_assoc, List.length_cons, show k + 1 + (t.length : Int) = k + ((t.length + 1 : Nat) : Int) by omega]
theorem vi : ∀ (l : List Bool) (k h : Int), h ∈ yC k l ↔ ∃ i : Nat, l[i]? = some true ∧ h = k + i
 | [], k, h => by simp [yC]
 | a :: t, k, h => by
  rw [yC, List.mem_append, sF, vi t]
  constructor
  ·rintro (⟨rfl, rfl⟩ | ⟨i, h1, rfl⟩)
   ·exact ⟨0, rfl, by omega⟩
   ·exact ⟨i + 1, h1, by omega⟩
  ·rintro ⟨i, h1, rfl⟩;cases i with
   | zero => exact .inl ⟨by omega, by simpa using h1⟩
   | succ i => exact .inr ⟨i, h1, by omega⟩
theorem jG : ∀ (l : List Bool) (k : Int), ∀ h ∈ yC k l, k ≤ h := fun l k h hh => by
 obtain ⟨i, _, rfl⟩ := (vi l k h).1 hh;omega
theorem pE : ∀ (l : List Bool) (k : Int), (yC k l).Pairwise (· < ·)
 | [], k => by simp [yC]
 | a :: t, k => by
  rw [yC, List.pairwise_append];refine ⟨by cases a <;> simp [xT], pE t _, fun x hx y hy => ?_⟩;have h1 := ((sF _ _ _).1 hx).1;have h2 := jG t _ y hy;omega
theorem gi {F : Int → Prop} {l : List Bool} (h : ∀ i : Nat, l[i]? = some true ↔ F i) (hn : ∀ x, F x → 0 ≤ x) : ld F (yC 0 l) := by
 have hp := pE l 0;refine ⟨hp.imp (fun h => by omega), hp.imp (fun h => by omega), fun x => ?_⟩;rw [vi]
 constructor
 ·rintro ⟨i, h1, rfl⟩;have := (h i).1 h1;simpa using this
 ·intro hx;obtain ⟨i, rfl⟩ := Int.eq_ofNat_of_zero_le (hn x hx);exact ⟨i, (h i).2 hx, by simp⟩
noncomputable def KI (nn : Nat) (ns : List Nd) (ds : List Dv) (s : List Int) (d : Nat) (p co : Int) (ls : List Lk) (pr : List Int) (x : Dv) : List Bool :=
 if s.getD d 0 = p then [false, false, false, false, zi ls d, false, x.comp != co, true, false]
 else [false, decide (p = 2) && decide (yz nn ns ds s d x = 4), yV x.kind p (yz nn ns ds s d x) (Cv (zW nn ds s) x), yR ns ds s (zX s d p), zi ls d, decide (p = 2) && decide (x.kind = 4) && !vV pr x.a, x.comp != co, false, false]
theorem gw (nn : Nat) (ns : List Nd) (ds : List Dv) (s : List Int) (d : Nat) (p co : Int) (ls : List Lk) (pr : List Int) (x : Dv) : (KI nn ns ds s d p co ls pr x).length = 9 := by
 unfold KI; split <;> rfl
theorem fz (nn : Nat) (ns : List Nd) (ds : List Dv) (s : List Int) (d : Nat) (p co : Int) (ls : List Lk) (pr : List Int) (x : Dv) : yC 0 (KI nn ns ds s d p co ls pr x) = vU nn ns ds s d p co ls pr x := by
 have hp : ∀ h, xT false h = [] := fun _ => rfl
 have e : ∀ a b c d e f g : Bool, yC 0 [false, a, b, c, d, e, f, g, false] = MU a b c d e f g := fun a b c d e f g => by
  simp only [yC, hp, MU, List.nil_append, List.append_nil, List.append_assoc]; rfl
 unfold KI vU;split <;> exact e _ _ _ _ _ _ _
theorem td (nn : Nat) (ns : List Nd) (ds : List Dv) (s : List Int) (d : Nat) (p co : Int) (ls : List Lk) (pr : List Int) (x : Dv) (i : Nat) : (KI nn ns ds s d p co ls pr x)[i]? = some true ↔ (i : Int) ∈ vU nn ns ds s d p co ls pr x := by
 rw [← fz, vi]
 constructor
 ·intro h; exact ⟨i, h, by omega⟩
 ·rintro ⟨j, h, e⟩; obtain rfl : i = j := by omega
  exact h
theorem rr (nn : Nat) (ns : List Nd) (ds : List Dv) (s : List Int) (d : Nat) (p co : Int) (ls : List Lk) (pr : List Int) (x : Dv) : (7 : Int) ∈ vU nn ns ds s d p co ls pr x ↔ s.getD d 0 = p := by
 unfold vU;split
 ·next h => rw [tc]; exact ⟨fun _ => h, fun _ => by simp⟩
 ·next h => rw [tc]; exact ⟨fun e => by simp at e, fun e => absurd e h⟩
def qR (F : List Int → List Bool) (rows : List (List Int)) (k : Nat) (S : List Bool) (nb : Bool) : Prop := S.length = 9 ∧ (∀ i, i < 9 → (S[i]? = some true ↔ ∃ s ∈ rows.take k, (F s)[i]? = some true)) ∧ (nb = true ↔ ∀ s ∈ rows.take k, (F s)[7]? = some true)
def lg (F : List Int → List Bool) (rows : List (List Int)) (k : Nat) (s : List Int) (j : Nat) (S : List Bool) : Prop := S.length = 9 ∧ (∀ i, i < 9 → (S[i]? = some true ↔ (∃ s ∈ rows.take k, (F s)[i]? = some true) ∨ i < j ∧ (F s)[i]? = some true))
section
variable {F : List Int → List Bool} {rows : List (List Int)} {k j : Nat} {s : List Int} {S : List Bool} {nb a b : Bool}
theorem qR.start : qR F rows 0 (List.replicate 9 false) true := ⟨rfl, fun i hi => by rw [List.getElem?_replicate, if_pos hi]; simp, by simp⟩
theorem qR.two (h : qR F rows k S nb) : lg F rows k s 0 S := ⟨h.1, fun i hi => by rw [h.2.1 i hi]; simp⟩
theorem qR.nothing (h : qR F rows k S nb) (hs : rows[k]? = some s) (hb : (F s)[7]? = some b) : (nb && b) = true ↔ ∀ s ∈ rows.take (k + 1), (F s)[7]? = some true := by
 rw [Bool.and_eq_true, h.2.2, zP hs]
 constructor
 ·rintro ⟨h1, rfl⟩ t ht;rcases List.mem_append.1 ht with h2 | h2
  ·exact h1 t h2
  ·rw [List.mem_singleton.1 h2]; exact hb
 ·intro h1;refine ⟨fun t ht => h1 t (List.mem_append_left _ ht), ?_⟩;have := h1 s (by simp);rw [hb] at this;exact Option.some.inj this
theorem lg.step (h : lg F rows k s j S) (hj : j < 9) (ha : S[j]? = some a) (hb : (F s)[j]? = some b) : lg F rows k s (j + 1) (S.set j (a || b)) := by
 refine ⟨by rw [List.length_set]; exact h.1, fun i hi => ?_⟩;by_cases JR : j = i
 ·subst JR;rw [List.getElem?_set_self (by rw [h.1]; exact hj)];have h1 := h.2 j hj;rw [ha] at h1;rw [hb]
  constructor
  ·intro h2;have h2 := Option.some.inj h2;rw [Bool.or_eq_true] at h2;rcases h2 with rfl | rfl
   ·rcases h1.1 rfl with h3 | h3
    ·exact .inl h3
    ·omega
   ·exact .inr ⟨by omega, rfl⟩
  ·rintro (h2 | ⟨_, h2⟩)
   ·have := Option.some.inj (h1.2 (.inl h2));rw [this]; rfl
   ·have := Option.some.inj h2;rw [this, Bool.or_true]
 ·rw [List.getElem?_set_ne JR, h.2 i hi]
  constructor
  ·rintro (h1 | ⟨h1, h2⟩)
   ·exact .inl h1
   ·exact .inr ⟨by omega, h2⟩
  ·rintro (h1 | ⟨h1, h2⟩)
   ·exact .inl h1
   ·exact .inr ⟨by omega, h2⟩
theorem lg.done (h : lg F rows k s 9 S) (hs : rows[k]? = some s) (hn : nb = true ↔ ∀ s ∈ rows.take (k + 1), (F s)[7]? = some true) : qR F rows (k + 1) S nb := by
 refine ⟨h.1, fun i hi => ?_, hn⟩;rw [h.2 i hi, zP hs]
 constructor
 ·rintro (⟨t, ht, h1⟩ | ⟨_, h1⟩)
  ·exact ⟨t, List.mem_append_left _ ht, h1⟩
  ·exact ⟨s, by simp, h1⟩
 ·rintro ⟨t, ht, h1⟩;rcases List.mem_append.1 ht with h2 | h2
  ·exact .inl ⟨t, h2, h1⟩
  ·rw [List.mem_singleton.1 h2] at h1; exact .inr ⟨hi, h1⟩
end
theorem te (m : List Int) (hp : p = 1 ∨ p = 2) : xe m p ∈ yp m := by
 refine (wP m m.length _).2 ⟨wo m p, fun d hd => ?_⟩;unfold xe;rw [List.getElem?_map, List.getElem?_eq_getElem hd];simp only [Option.map_some]
 constructor
 ·intro h; injection h with h; rw [if_pos h]
  rcases hp with rfl | rfl
  ·exact .inl rfl
  ·exact .inr rfl
 ·intro h;rw [if_neg (fun e => h (by rw [e])), List.getD_eq_getElem?_getD, List.getElem?_eq_getElem hd]; rfl
theorem kQ {m : List Int} (hd : d < m.length) (hp : p = 1 ∨ p = 2) : (∀ s ∈ yp m, s.getD d 0 = p) ↔ m.getD d 0 = p := by
 have hg : m.getD d 0 = m[d]'hd := by rw [List.getD_eq_getElem?_getD, List.getElem?_eq_getElem hd]; rfl
 by_cases h3 : m[d]'hd = 3
 ·rw [hg]
  constructor
  ·intro h
   have hq : ∀ q : Int, (q = 1 ∨ q = 2) → q = p := fun q hq => by
    have := h _ (te m hq);unfold xe at this;rw [List.getD_eq_getElem?_getD, List.getElem?_map, List.getElem?_eq_getElem hd] at this;simpa [h3] using this
   have h1 := hq 1 (.inl rfl);have h2 := hq 2 (.inr rfl);omega
  ·intro h; rw [h3] at h; omega
 ·constructor
  ·intro h;have h1 := h _ (te m hp);unfold xe at h1;rw [List.getD_eq_getElem?_getD, List.getElem?_map, List.getElem?_eq_getElem hd] at h1;rw [hg];simpa [h3] using h1
  ·intro h s hs;have h1 := (((wP m m.length s).1 hs).2 d hd).2 (by rw [List.getElem?_eq_getElem hd]; exact fun e => h3 (Option.some.inj e));rw [List.getD_eq_getElem?_getD, h1];exact h
theorem iV {nn : Nat} {ns : List Nd} {ds : List Dv} {m : List Int} {co : Int} {ls : List Lk} {pr : List Int} {x : Dv} {S : List Bool} {nb : Bool} (hd : d < m.length) (hp : p = 1 ∨ p = 2) (h : qR (fun s => KI nn ns ds s d p co ls pr x) (yp m) (yp m).length S nb) : ld (gO nn ns ds (yp m) (m.getD d 0) d p co ls pr x) (yC 0 (S.set 7 nb)) := by
 obtain ⟨h9, h1, h2⟩ := h;rw [List.take_length] at h1 h2;refine gi (fun i => ?_) (fun y hy => ?_)
 ·by_cases hi : i < 9
  ·by_cases h7 : i = 7
   ·subst h7;rw [List.getElem?_set_self (by omega)]
    constructor
    ·intro e;have e := h2.1 (Option.some.inj e);have ha : ∀ s ∈ yp m, s.getD d 0 = p := fun s hs => (rr nn ns ds s d p co ls pr x).1 ((td nn ns ds s d p co ls pr x 7).1 (e s hs))
     exact ⟨_, te m (p := 1) (.inl rfl), (td nn ns ds _ d p co ls pr x 7).1 (e _ (te m (.inl rfl))), .inr ((kQ hd hp).1 ha)⟩
    ·rintro ⟨s, _, _, hm⟩;have hm : m.getD d 0 = p := hm.resolve_left (by simp);have := (kQ hd hp).2 hm;rw [h2.2 fun s hs => (td nn ns ds s d p co ls pr x 7).2 ((rr nn ns ds s d p co ls pr x).2 (this s hs))]
   ·rw [List.getElem?_set_ne (by omega), h1 i hi]
    constructor
    ·rintro ⟨s, hs, h3⟩;exact ⟨s, hs, (td nn ns ds s d p co ls pr x i).1 h3, .inl (by omega)⟩
    ·rintro ⟨s, hs, h3, _⟩;exact ⟨s, hs, (td nn ns ds s d p co ls pr x i).2 h3⟩
  ·rw [List.getElem?_eq_none (by rw [List.length_set]; omega)]
   constructor
   ·intro e; cases e
   ·rintro ⟨s, hs, h3, _⟩;have := uy h3;omega
 ·obtain ⟨s, hs, h3, _⟩ := hy;have := uy h3;omega
theorem pu (ns : List Nd) (ds : List Dv) (s : List Int) : wV ns ds s 3 = zU ns ds s := by
 unfold wV zU
 have e : (∀ p ∈ s, 1 ≤ p ∧ p ≤ 3) ↔ ∀ p ∈ s, zl p = true :=
  ⟨fun h p hp => by have := h p hp; simp [zl]; omega, fun h p hp => by have := h p hp; simp [zl] at this; omega⟩
 by_cases h1 : zR ns ds ≠ 0
 ·rw [if_pos h1, if_pos h1]
 ·rw [if_neg h1, if_neg h1];by_cases h2 : s.length ≠ ds.length
  ·rw [if_pos h2, if_pos h2]
  ·rw [if_neg h2, if_neg h2];by_cases h3 : ∀ p ∈ s, 1 ≤ p ∧ p ≤ 3
   ·rw [if_pos h3, if_pos (e.1 h3)]
   ·rw [if_neg h3, if_neg (fun h => h3 (e.2 h))]
theorem nC (An Ad As : Option Addr) (nn cn nd cd n c Bn Bd Bs : Nat) (ns : List Nd) (ds : List Dv) (s : List Int) (w : World) (hn : Sl w Bn 3 An nn cn (ns.flatMap Nd.cells)) (hd : Sl w Bd 5 Ad nd cd (ds.flatMap Dv.cells)) (hs : Sl w Bs 1 As n c (zE s)) (CS : Bn ≤ w.heap.size) (BP : Bd ≤ w.heap.size) (CJ : Bs ≤ w.heap.size)
 (Bg : FP ns) (BU : Fv ds) :
 Calls prog 84 #[.agg #[.slice An nn cn, .slice Ad nd cd], .slice As n c] w fun e w' => e = .returned (.int .i64 (zU ns ds s)) ∧ bW w w' := by
 have HC := iD (ow An Ad As nn cn nd cd n c Bn Bd Bs ns ds s 3 (w.alloc (.cells #[.slice An nn cn, .slice Ad nd cd] 30)) (hn.alloc CS _) (hd.alloc BP _) (hs.alloc CJ _) (by simp; omega) (by simp; omega) (by simp; omega) Bg BU);rw [pu] at HC;clear hn hd hs Bg BU
 go_enter func84, ntmps84
 go_wp2_with fail
 refine HC.mono ?_;rintro e w1 ⟨rfl, AV⟩
 go_wp2_with fail
 go_ret;exact ⟨rfl, ((Below.refl _ _).alloc lR _).trans (AV.mono (by simp))⟩
theorem vP (A : Option Addr) (n c B : Nat) (l : List Int) (d p : Int) (w : World) (hs : Sl w B 1 A n c (zE l)) (hB : B ≤ w.heap.size) (hn : n ≤ 1000000) : Calls prog 96 #[.slice A n c, .int .i64 d, .int .i64 p] w (xB w (zX l d p)) := by
 have HL := iD (hs.len (fun _ => rfl) (by decide));have HS := iD (hs.more hB);clear hs;have Bq : n ≤ 9223372036854775807 := by omega
 by_cases h0 : 0 ≤ d
 ·by_cases h1 : d < n
  ·obtain ⟨k, rfl⟩ := Int.eq_ofNat_of_zero_le h0;have HW : Hid (zX l k p = l.set k p) := by unfold Hid zX; rw [if_pos ⟨h0, by rw [HL.out]; exact h1⟩]; rfl
   have Gx : k < n := by omega
   go_enter func96, ntmps96
   go_upto_region 2 with (at_builtin; go_must (refine zM rfl _ (.tmp 8) rfl yU (by rfl) (World.ownsRow_nil _ w.heap.size _ _) (by rfl) HS (xI l) (by omega) (by omega) lR ?_; intro A1 IZ w4 CY Bt IX; simp only [Nat.zero_add, List.nil_append] at CY Bt ⊢; have BC : Hid (zL w4 w.heap.size A1 n IZ l) := CY; have DF : Hid (Below w.heap.size w w4) := ⟨Bt.os, Bt.tape, Bt.output, Bt.size, fun i hi => Bt.block i hi (by simp [Value.ownBlock])⟩; clear CY Bt IX))
   obtain ⟨g, x, rfl, Av, DD, hx, hcell, AK, hst⟩ := BC.at (i := k) (by omega);have BG := iD (hst p);clear hst hx
   go_wp2_with fail
   go_ret;exact yt (by rw [HW.out, List.length_set, HL.out]) (by rw [HW.out]; exact BG) (DF.setCell Av _)
  ·have q1 : decide (d < (n : Int)) = false := by simpa using h1
   have HW : Hid (zX l d p = l) := by unfold Hid zX; rw [if_neg (by rw [HL.out]; omega)]
   go_enter func96, ntmps96
   go_upto_region 2 with (at_builtin; go_must (refine zM rfl _ (.tmp 8) rfl yU (by rfl) (World.ownsRow_nil _ w.heap.size _ _) (by rfl) HS (xI l) (by omega) (by omega) lR ?_; intro A1 IZ w4 CY Bt IX; simp only [Nat.zero_add, List.nil_append] at CY Bt ⊢; have BC : Hid (zL w4 w.heap.size A1 n IZ l) := CY; have DF : Hid (Below w.heap.size w w4) := ⟨Bt.os, Bt.tape, Bt.output, Bt.size, fun i hi => Bt.block i hi (by simp [Value.ownBlock])⟩; clear CY Bt IX))
   go_wp2_with fail
   go_ret;exact yt (by rw [HW.out, HL.out]) (by rw [HW.out]; exact BC) DF.out
 ·have q0 : decide (0 ≤ d) = false := by simpa using h0
  have HW : Hid (zX l d p = l) := by unfold Hid zX; rw [if_neg (by omega)]
  go_enter func96, ntmps96
  go_upto_region 2 with (at_builtin; go_must (refine zM rfl _ (.tmp 8) rfl yU (by rfl) (World.ownsRow_nil _ w.heap.size _ _) (by rfl) HS (xI l) (by omega) (by omega) lR ?_; intro A1 IZ w4 CY Bt IX; simp only [Nat.zero_add, List.nil_append] at CY Bt ⊢; have BC : Hid (zL w4 w.heap.size A1 n IZ l) := CY; have DF : Hid (Below w.heap.size w w4) := ⟨Bt.os, Bt.tape, Bt.output, Bt.size, fun i hi => Bt.block i hi (by simp [Value.ownBlock])⟩; clear CY Bt IX))
  go_wp2_with fail
  go_ret;exact yt (by rw [HW.out, HL.out]) (by rw [HW.out]; exact BC) DF.out
theorem lJ (An Ad Al Ap : Option Addr) (nn cn nd cd nl cl np cp : Nat) (d p co : Int) (w : World) (_hndm : nd ≤ 9223372036854775807) :
 Calls prog 91 #[.agg #[.slice An nn cn, .slice Ad nd cd], .agg #[.int .i64 d, .int .i64 p], .agg #[.int .i64 co, .slice Al nl cl, .slice Ap np cp]] w fun e w' => e = .returned (.int .i64 (yS nd d p co)) ∧ bW w w' := by
 have HE : Hid (yS nd d p co = if d < 0 then 8 else if (nd : Int) ≤ d then 8 else if p ≠ 1 ∧ p ≠ 2 then 10 else if co < 0 then 5 else if 7 < co then 5 else 0) := rfl;have HB := iD (IK.new w #[.slice An nn cn, .slice Ad nd cd] #[.int .i64 d, .int .i64 p] #[.int .i64 co, .slice Al nl cl, .slice Ap np cp]).bl;by_cases h1 : d < 0
 ·go_enter func91, ntmps91
  go_wp2_with fail
  go_ret;exact ⟨zC (by rw [HE.out, if_pos (by omega)]), HB⟩
 have q1 : decide (d < 0) = false := by simpa using h1
 by_cases h2 : (nd : Int) ≤ d
 ·go_enter func91, ntmps91
  go_wp2_with fail
  go_ret;exact ⟨zC (by rw [HE.out, if_neg (by omega), if_pos (by omega)]), HB⟩
 have q2 : decide ((nd : Int) ≤ d) = false := by simpa using h2
 by_cases h3 : p ≠ 1 ∧ p ≠ 2
 ·have q3 : (p != 1) = true := by simpa using h3.1
  have q4 : (p != 2) = true := by simpa using h3.2
  go_enter func91, ntmps91
  go_wp2_with fail
  go_ret;exact ⟨zC (by rw [HE.out, if_neg (by omega), if_neg (by omega), if_pos (by omega)]), HB⟩
 have Hf : Hid (yS nd d p co = if co < 0 then 5 else if 7 < co then 5 else 0) := by unfold Hid; rw [HE.out, if_neg (by omega), if_neg (by omega), if_neg (by omega)]
 clear HE;by_cases h4 : co < 0
 ·rcases (show p = 1 ∨ p = 2 by omega) with rfl | rfl
  ·go_enter func91, ntmps91
   go_wp2_with fail
   go_ret;exact ⟨zC (by rw [Hf.out, if_pos (by omega)]), HB⟩
  ·go_enter func91, ntmps91
   go_wp2_with fail
   go_ret;exact ⟨zC (by rw [Hf.out, if_pos (by omega)]), HB⟩
 have q5 : decide (co < 0) = false := by simpa using h4
 have PZ : Hid (yS nd d p co = if 7 < co then 5 else 0) := by unfold Hid; rw [Hf.out, if_neg (by omega)]
 clear Hf;by_cases h5 : 7 < co
 ·rcases (show p = 1 ∨ p = 2 by omega) with rfl | rfl
  ·go_enter func91, ntmps91
   go_wp2_with fail
   go_ret;exact ⟨zC (by rw [PZ.out, if_pos (by omega)]), HB⟩
  ·go_enter func91, ntmps91
   go_wp2_with fail
   go_ret;exact ⟨zC (by rw [PZ.out, if_pos (by omega)]), HB⟩
 have q6 : decide (7 < co) = false := by simpa using h5
 rcases (show p = 1 ∨ p = 2 by omega) with rfl | rfl
 ·go_enter func91, ntmps91
  go_wp2_with fail
  go_ret;exact ⟨zC (by rw [PZ.out, if_neg (by omega)]), HB⟩
 ·go_enter func91, ntmps91
  go_wp2_with fail
  go_ret;exact ⟨zC (by rw [PZ.out, if_neg (by omega)]), HB⟩
def da (W : World) (ls : List Lk) (d : Int) (n gk : Nat) (iv : Value) (wr : World) : Prop := ∃ i : Nat, iv = .int .i64 i ∧ i ≤ n ∧ gk = n - i ∧ wr = W ∧ Hid (∀ x ∈ ls.take i, x.dev ≠ d)
theorem ng (Al Ap : Option Addr) (nl cl np cp : Nat) (ls : List Lk) (co d : Int) (w : World) (hl : BI w 3 Al nl cl (ls.flatMap Lk.cells)) :
 Calls prog 92 #[.agg #[.int .i64 co, .slice Al nl cl, .slice Ap np cp], .int .i64 d] w fun e w' => e = .returned (.bool (zi ls d)) ∧ bW w w' := by
 have Cb := iD (hl.len (fun _ => rfl) (by decide));have EH := hl.le;have HB : Hid (Below w.heap.size w (w.alloc (.cells #[.int .i64 co, .slice Al nl cl, .slice Ap np cp] 37))) := (Below.refl _ _).alloc lR _;have HK := iD (AJ.new w 37 #[.int .i64 co, .slice Al nl cl, .slice Ap np cp]);have HS := iD (hl.below HB lR);clear hl
 go_enter func92, ntmps92
 go_wp2_with fail
 generalize World.alloc w _ = W at *;have k1 := HK.c1;obtain ⟨gb, IW⟩ := eX w.heap.size;rw [← IW] at k1 ⊢;clear HK IW
 go_loopg [5] nl (da W ls d nl)
 case atStart => exact ⟨0, rfl, Nat.zero_le _, rfl, rfl, fun x hx => by simp at hx⟩
 case round =>
  obtain ⟨i, rfl, hi, rfl, rfl, hno⟩ := hrel;by_cases hlt : i < nl
  ·obtain ⟨b, off, x, rfl, hb, hx, hc⟩ := HS.at (fun _ => rfl) (by decide) hlt;have HX := iD hx;have c0 : wr.cell? ⟨b, off + i * 3, none⟩ = some (.int .i64 x.dev) := hc 0 _ rfl;clear hx hc;by_cases DI : x.dev = d
   ·have q : (x.dev == d) = true := by simpa using DI
    have HR : Hid (zi ls d = true) := by
     unfold Hid zi;rw [List.any_eq_true];exact ⟨x, List.mem_of_getElem? HX, by simpa using DI⟩
    clear DI
    go_wp2_with fail
    go_ret;exact ⟨zF HR.symm, HB⟩
   ·have q : (x.dev == d) = false := by simpa using DI
    have HN : Hid (∀ y ∈ ls.take (i + 1), y.dev ≠ d) := fun y hy => by
     rw [zP HX.out] at hy;rcases List.mem_append.1 hy with h | h
     ·exact hno y h
     ·rw [List.mem_singleton.1 h]; exact DI
    clear DI
    go_wp2_with fail
    go_roundg (nl - (i + 1))
    ·exact ⟨i + 1, by go_num, by omega, rfl, rfl, HN⟩
    omega
  ·obtain rfl : i = nl := by omega
   have Cw : decide (i < i) = false := by simp
   have HR : Hid (zi ls d = false) := by
    unfold Hid zi;rw [List.any_eq_false];intro x hx;have := hno x (by rw [List.take_of_length_le (by rw [Cb.out]; exact Nat.le_refl _)]; exact hx);simpa using this
   go_wp2_with fail
   go_ret;exact ⟨zF HR.symm, HB⟩
def dc (W : World) (l : List Bool) (gk : Nat) (ov iv : Value) (wr : World) : Prop := ∃ (i m co : Nat) (Ao : Option Addr), iv = .int .i64 i ∧ ov = .slice Ao m co ∧ i ≤ 9 ∧ gk = 9 - i ∧ m ≤ i ∧ Hid (zL wr W.heap.size Ao m co (yC 0 (l.take i))) ∧ Hid (bW W wr)
theorem kr (b0 b1 b2 b3 b4 b5 b6 b7 b8 : Bool) (w : World) : Calls prog 67 #[.agg #[.bool b0, .bool b1, .bool b2, .bool b3, .bool b4, .bool b5, .bool b6, .bool b7, .bool b8]] w (xB w (yC 0 [b0, b1, b2, b3, b4, b5, b6, b7, b8])) := by
 have HB : Hid (Below w.heap.size w (w.alloc (.cells #[.bool b0, .bool b1, .bool b2, .bool b3, .bool b4, .bool b5, .bool b6, .bool b7, .bool b8] 114))) := (Below.refl _ _).alloc lR _;have HK := iD (AJ.new w 114 #[.bool b0, .bool b1, .bool b2, .bool b3, .bool b4, .bool b5, .bool b6, .bool b7, .bool b8]);obtain ⟨l, hl⟩ := eX ([b0, b1, b2, b3, b4, b5, b6, b7, b8]);have Kw := iD hl;have H9 : Hid (l.length = 9) := by unfold Hid; rw [hl]; rfl
 go_enter func67, ntmps67
 go_wp2_with fail
 rw [← hl];clear hl;generalize World.alloc w _ = W at *;have Kq := HB.size;have Bo := HK.lt;obtain ⟨gb, IW⟩ := eX w.heap.size;rw [← IW] at HK Bo ⊢;have JF := iD IW;clear IW
 go_loopg [3, 4] 9 (dc W l)
 case atStart => exact ⟨0, 0, 0, none, rfl, rfl, Nat.zero_le _, rfl, Nat.le_refl _, World.ownsRow_nil _ _ _ _, Below.refl _ _⟩
 case round =>
  obtain ⟨i, m, co, Ao, rfl, rfl, hi, rfl, AH, hO, hb⟩ := hrel;by_cases hlt : i < 9
  ·obtain ⟨x, hx⟩ : ∃ x, l[i]? = some x := ⟨_, List.getElem?_eq_getElem (by rw [H9.out]; exact hlt)⟩
   have HX := iD hx;have EP := iD (HK.below hb Bo)
   have c0 : wr.cell? ⟨gb, i, none⟩ = some (.bool x) := by
    have h1 : (l.map Value.bool)[i]? = some (.bool x) := by rw [List.getElem?_map, hx]; rfl
    rw [Kw.out] at h1;rw [EP.cell i, List.getElem?_toArray];exact h1
   have HT : Hid (yC 0 (l.take (i + 1)) = yC 0 (l.take i) ++ xT x i) := by
    unfold Hid;rw [zP hx, sZ, List.length_take, H9.out, Nat.min_eq_left (by omega), Int.zero_add]
   clear hx;rcases x with _ | _
   ·have Ay : Hid (zL wr W.heap.size Ao m co (yC 0 (l.take (i + 1)))) := by unfold Hid; rw [HT.out]; simp only [xT, List.append_nil, Bool.false_eq_true, if_false]; exact hO.out
    go_wp2_with fail
    go_roundg (9 - (i + 1))
    ·exact ⟨i + 1, m, co, Ao, by go_num, rfl, by omega, rfl, by omega, Ay, hb⟩
    omega
   ·go_wp2_with (at_builtin; go_must (refine zM rfl (.tmp 12) (.tmp 14) rfl yU (by rfl) (hO.alloc _) (by rfl) (Sl.newest (n := 1) (by simp) (by rfl) (by decide)) (by simp [Value.oneCell']) (by omega) (by omega) (by have := hb.size; simp; omega) ?_; intro A2 Bi w5 Ar Am EJ; have La := iD Ar; have Cf : Hid (Below W.heap.size W w5) := (hb.alloc hb.size _).trans ⟨Am.os, Am.tape, Am.output, Am.size, fun t ht => Am.block t (by have := hb.size; simp; omega) (fun e => by have := (hO.lt t e.symm).1; omega)⟩; clear Ar Am EJ))
    have Di : Hid (zL w5 W.heap.size A2 (m + 1) Bi (yC 0 (l.take (i + 1)))) := by
     unfold Hid;rw [HT.out];simp only [xT, if_true];unfold zL;rw [ze];exact La.out
    go_roundg (9 - (i + 1))
    ·exact ⟨i + 1, m + 1, Bi, A2, by go_num, rfl, by omega, rfl, by omega, Di, Cf⟩
    omega
  ·obtain rfl : i = 9 := by omega
   have Cw : decide ((9 : Int) < 9) = false := by decide
   have Ay : Hid (zL wr W.heap.size Ao m co (yC 0 l)) := by have := hO.out; rw [List.take_of_length_le (by rw [H9.out]; exact Nat.le_refl _)] at this; exact this
   go_wp2_with fail
   go_ret;rw [Kw.out] at Ay;exact yt Ay.len (Ay.mono Kq) (HB.trans (hb.mono Kq))
theorem sg (An Ad As Al Ap Ax : Option Addr) (nn cn nd cd n c nl cl np cp nx cx : Nat) (ns : List Nd) (ds : List Dv) (s : List Int) (ls : List Lk) (pr : List Int) (co : Int) (nm : ByteArray) (xs : List Sp) (w : World) (h : sr w An Ad As Al Ap Ax nn cn nd cd n c nl cl np cp nx cx ns ds s ls pr nm xs) :
 Calls prog 46 #[.agg #[.slice An nn cn, .slice Ad nd cd], .slice As n c, .agg #[.int .i64 co, .slice Al nl cl, .slice Ap np cp], .agg #[.string nm, .slice Ax nx cx]] w fun e w' => e = .returned (.int .i64 (yX ns ds s co ls pr nm xs)) ∧ bW w w' := by
 have HH := iD h;have HB := iD (UI.new w #[.slice An nn cn, .slice Ad nd cd] #[.int .i64 co, .slice Al nl cl, .slice Ap np cp] #[.string nm, .slice Ax nx cx]);have HE : Hid (yX ns ds s co ls pr nm xs = if zU ns ds s ≠ 0 then zU ns ds s else if xJ ns ds co ls pr ≠ 0 then xJ ns ds co ls pr else xw ns ds nm xs) := rfl;clear h
 go_enter func46, ntmps46
 go_upto_region 1 with (fail);generalize World.alloc (World.alloc (World.alloc w _) _) _ = W at *;have HM := iD (HH.below HB.bl);have HC := iD (uC An Ad As nn cn nd cd n c W.heap.size W.heap.size W.heap.size ns ds s W HM.h.la HM.h.hn HM.h.hd HM.h.hs lR lR lR HM.h.sn HM.h.sd);obtain ⟨k0, k1⟩ := HB.bn.d2
 go_wp2_with fail
 clear k0 k1;refine HC.mono ?_;rintro e w1 ⟨rfl, AV⟩;have AQ := iD (HB.later AV);have Fj := iD (HM.below AV);clear AV HB HM HC;by_cases hc : zU ns ds s = 0; rotate_left
 ·have q1 : (zU ns ds s != 0) = true := by simpa using hc
  have HR : Hid (yX ns ds s co ls pr nm xs = zU ns ds s) := by unfold Hid; rw [HE.out, if_pos hc]
  clear hc
  go_wp2_with fail
  go_ret;exact ⟨zC (by rw [HR.out]), AQ.bl⟩
 have Nc : Hid (yX ns ds s co ls pr nm xs = if xJ ns ds co ls pr ≠ 0 then xJ ns ds co ls pr else xw ns ds nm xs) := by unfold Hid; rw [HE.out, if_neg (by simp [hc])]
 rw [hc];clear hc HE;have HC := iD (lL An Ad As Al Ap nn cn nd cd n c nl cl np cp ns ds s ls pr co w1 Fj.h);obtain ⟨k0, k1⟩ := AQ.bn.d2;obtain ⟨g0, g1, g2⟩ := AQ.bg.d3
 go_wp2_with fail
 clear k0 k1 g0 g1 g2;refine HC.mono ?_;rintro e w2 ⟨rfl, AZ⟩;have Ai := iD (AQ.later AZ);have Ck := iD (Fj.below AZ);clear AZ AQ Fj HC;by_cases hc : xJ ns ds co ls pr = 0; rotate_left
 ·have q1 : (xJ ns ds co ls pr != 0) = true := by simpa using hc
  have HR : Hid (yX ns ds s co ls pr nm xs = xJ ns ds co ls pr) := by unfold Hid; rw [Nc.out, if_pos hc]
  clear hc
  go_wp2_with fail
  go_ret;exact ⟨zC (by rw [HR.out]), Ai.bl⟩
 have Eu : Hid (yX ns ds s co ls pr nm xs = xw ns ds nm xs) := by unfold Hid; rw [Nc.out, if_neg (by simp [hc])]
 rw [hc];clear hc Nc;have HC := iD (nF An Ad Ax nn cn nd cd nx cx ns ds nm xs w2 ⟨Ck.h.hn, Ck.h.hd, Ck.x, Ck.h.la, Ck.h.sn, Ck.h.sd, Ck.m⟩);obtain ⟨k0, k1⟩ := Ai.bn.d2;obtain ⟨p0, p1⟩ := Ai.bp.d2
 go_wp2_with fail
 clear k0 k1 p0 p1;refine HC.mono ?_;rintro e w3 ⟨rfl, BX⟩
 go_wp2_with fail
 go_ret;exact ⟨zC (by rw [Eu.out]), Ai.bl.trans (BX.mono Ai.bl.size)⟩
def eO (w : World) (ns : List Nd) (ds : List Dv) (m : List Int) (co : Int) (ls : List Lk) (pr : List Int) (x : Sp) (e : Ending) (w' : World) : Prop :=
 (yX ns ds m co ls pr ⟨#[80]⟩ [x] ≠ 0 ∧ e = .returned (.tuple #[.slice none 0 0, .slice none 0 0, .agg #[.int .i64 0, .slice none 0 0, .slice none 0 0], .int .i64 (yX ns ds m co ls pr ⟨#[80]⟩ [x])]) ∨
  yX ns ds m co ls pr ⟨#[80]⟩ [x] = 0 ∧ (zn ns ds co ⟨m, ls, pr⟩ x).e ≠ 0 ∧ e = .returned (.tuple #[.slice none 0 0, .slice none 0 0, .agg #[.int .i64 0, .slice none 0 0, .slice none 0 0], .int .i64 (zn ns ds co ⟨m, ls, pr⟩ x).e]) ∨
  yX ns ds m co ls pr ⟨#[80]⟩ [x] = 0 ∧ (zn ns ds co ⟨m, ls, pr⟩ x).e = 0 ∧ ∃ (A1 A2 Al Ap : Option Addr) (n1 c1 n2 c2 nl cl np cp : Nat), e = .returned (.tuple #[.slice A1 n1 c1, .slice A2 n2 c2, .agg #[.int .i64 co, .slice Al nl cl, .slice Ap np cp], .int .i64 0]) ∧ Hid (xF w' A1 A2 Al Ap n1 c1 n2 c2 nl cl np cp ⟨(zn ns ds co ⟨m, ls, pr⟩ x).h, (zn ns ds co ⟨m, ls, pr⟩ x).t, true⟩) ∧ Hid (mN w.heap.size A1 A2 Al Ap)) ∧ Hid (Below w.heap.size w w')
structure Nz (x : Nat) (A1 A2 Al Ap : Option Addr) (n1 n2 nl np : Nat) : Prop where
 h : 0 < n1 → ∀ b off, A1 = some ⟨b, off, none⟩ → b ≠ x
 s : 0 < n2 → ∀ b off, A2 = some ⟨b, off, none⟩ → b ≠ x
 l : 0 < nl → ∀ b off, Al = some ⟨b, off, none⟩ → b ≠ x
 p : 0 < np → ∀ b off, Ap = some ⟨b, off, none⟩ → b ≠ x
theorem pl {n c : Nat} (h : BI w size A n c xs) (hx : w.heap.size ≤ x) : 0 < n → ∀ b off, A = some ⟨b, off, none⟩ → b ≠ x := by
 intro hn b off e;obtain ⟨b', off', e', hb, -⟩ := h.2.2.2.2 hn;rw [e] at e'; injection e' with e'; injection e' with e1 e2
 omega
theorem Nz.new (h : xF w A1 A2 Al Ap n1 c1 n2 c2 nl cl np cp o) (hx : w.heap.size ≤ x) : Nz x A1 A2 Al Ap n1 n2 nl np := ⟨pl h.h hx, pl h.s hx, pl h.l hx, pl h.p hx⟩
theorem zf {n n' B : Nat} (h : Ji B A A' n n') (hs : ∀ b off, A = some ⟨b, off, none⟩ → b ≠ x) (h2 : x < B) : 0 < n' → ∀ b off, A' = some ⟨b, off, none⟩ → b ≠ x := by
 intro _ b off e;rcases h with ⟨rfl, rfl⟩ | h
 ·exact hs b off e
 ·have := h b off e; omega
theorem xF.st5 {a b d e f : Value} (h : xF w A1 A2 Al Ap n1 c1 n2 c2 nl cl np cp o) (hx : Nz x A1 A2 Al Ap n1 n2 nl np) : xF (Go.Proofs.YtkkobemhbicjgaaGreatDoor.st5 w x a b d e f) A1 A2 Al Ap n1 c1 n2 c2 nl cl np cp o :=
 ⟨tN h.h hx.h, tN h.s hx.s, tN h.l hx.l, tN h.p hx.p⟩
theorem xF.st3 {a b d : Value} (h : xF w A1 A2 Al Ap n1 c1 n2 c2 nl cl np cp o) (hx : Nz x A1 A2 Al Ap n1 n2 nl np) : xF (((w.setCell ⟨x, 0, none⟩ a).setCell ⟨x, 1, none⟩ b).setCell ⟨x, 2, none⟩ d) A1 A2 Al Ap n1 c1 n2 c2 nl cl np cp o :=
 ⟨(((h.h.ne3 hx.h).ne3 hx.h).ne3 hx.h).more (by simp [World.setCell]), (((h.s.ne3 hx.s).ne3 hx.s).ne3 hx.s).more (by simp [World.setCell]), (((h.l.ne3 hx.l).ne3 hx.l).ne3 hx.l).more (by simp [World.setCell]), (((h.p.ne3 hx.p).ne3 hx.p).ne3 hx.p).more (by simp [World.setCell])⟩
theorem eC {ns : List Nd} {ds : List Dv} {m : List Int} {co : Int} {ls : List Lk} {pr : List Int} {nm : ByteArray} {x : Sp} (h : yX ns ds m co ls pr nm [x] = 0) : zc ns.length ds.length x = 0 := vc (qH h).2.2.2 x (by simp)
theorem lV (An Ad As Al Ap : Option Addr) (nn cn nd cd n c nl cl np cp : Nat) (ns : List Nd) (ds : List Dv) (m : List Int) (ls : List Lk) (pr : List Int) (co k d no p q : Int) (w : World) (h : yc w An Ad As Al Ap nn cn nd cd n c nl cl np cp ns ds m ls pr) :
 Calls prog 29 #[.agg #[.slice An nn cn, .slice Ad nd cd], .slice As n c, .agg #[.int .i64 co, .slice Al nl cl, .slice Ap np cp], .agg #[.int .i64 k, .int .i64 d, .int .i64 no, .int .i64 p, .int .i64 q]] w (eO w ns ds m co ls pr ⟨k, d, no, p, q⟩) := by
 obtain ⟨Da, Hl, ES⟩ := h.ln;have Oj : ls.length = nl := h.hl.len (fun _ => rfl) (by decide);have RL : pr.length = np := h.hp.len (fun _ => rfl) (by decide);have HH := iD h;have HB := iD (Bw.new4 w (30, #[.slice An nn cn, .slice Ad nd cd]) (37, #[.int .i64 co, .slice Al nl cl, .slice Ap np cp]) (43, #[.int .i64 k, .int .i64 d, .int .i64 no, .int .i64 p, .int .i64 q]) (37, #[.int .i64 0, .slice none 0 0, .slice none 0 0]));clear h
 go_enter func29, ntmps29
 go_upto_region 1 with (fail);dsimp only at HB;generalize World.alloc (World.alloc (World.alloc (World.alloc w _) _) _) _ = W at *;rw [show w.heap.size + 1 + 1 = w.heap.size + 2 from rfl, show w.heap.size + 2 + 1 = w.heap.size + 3 from rfl];refine fv (fun W' => Bw w [(30, #[.slice An nn cn, .slice Ad nd cd]), (37, #[.int .i64 co, .slice Al nl cl, .slice Ap np cp]), (43, #[.int .i64 k, .int .i64 d, .int .i64 no, .int .i64 p, .int .i64 q]), (37, #[.int .i64 0, .slice none 0 0, .slice none 0 0])] W') [] ?_ fun AA => ?_
 ·exact HB.drew
 try dsimp only at AA
 refine ty 0 16 (mf 7 1) AA (y := by intro w AL; have k0 := AL.b0.cell 0; have k1 := AL.b0.cell 1; go_simp; try with_reducible rfl) (h := ?_);refine tk 1 17 (mf 7 2) AA ?_;refine ty 2 18 (mf 7 3) AA (y := by intro w AL; have g0 := AL.b1.cell 0; have g1 := AL.b1.cell 1; have g2 := AL.b1.cell 2; go_simp; try with_reducible rfl) (h := ?_);refine ty 3 19 (mf 7 4) AA (y := by intro w AL; have s0 := AL.b2.cell 0; have s1 := AL.b2.cell 1; have s2 := AL.b2.cell 2; have s3 := AL.b2.cell 3; have s4 := AL.b2.cell 4; go_simp; try with_reducible rfl) (h := ?_);refine tb 4 (mf 7 5) fun K hK => ?_
 (go_simp; refine (rS k d no p q _).mono ?_; rintro e w1 ⟨sb, rfl, Bc, AV⟩; have BO := iD Bc.out; have AQ := iD AV.out; clear Bc AV; go_simp)
 refine hK _ _ (fun _ => AA.later AQ.out) fun p => (fun AA => ?_) (p rfl)
 clear p hK K;(try dsimp only at AA);refine tb 5 (mf 7 6) fun K hK => ?_
 (go_simp; refine (sg An Ad As Al Ap (some ⟨sb, 0, none⟩) nn cn nd cd n c nl cl np cp 1 1 ns ds m ls pr co ⟨#[80]⟩ [⟨k, d, no, p, q⟩] w1 ⟨HH.below AA.l, by simpa using BO.out, by decide⟩).mono ?_; rintro e w2 ⟨rfl, AZ⟩; have Ai := iD AZ; clear AZ; go_simp)
 refine hK _ _ (fun _ => AA.later Ai.out) fun p => (fun AA => ?_) (p rfl)
 clear p hK K;(try dsimp only at AA);refine tk 6 12 (mf 7 7) AA ?_;refine tK ?_;obtain ⟨E, hE⟩ := eX (yX ns ds m co ls pr ⟨#[80]⟩ [⟨k, d, no, p, q⟩]);rw [← hE];have EY := iD AA;have Cu := iD hE;clear AA HB AQ Ai BO hE;by_cases he : E = 0; rotate_left
 ·have q1 : (E != 0) = true := by simpa using he
  have Ht := iD he;clear he;obtain ⟨d0, d1, d2⟩ := EY.b3.d3;obtain ⟨y0, y1, y2⟩ := EY.b3.e3;have HF : Hid (Bw w [(30, #[.slice An nn cn, .slice Ad nd cd]), (37, #[.int .i64 co, .slice Al nl cl, .slice Ap np cp]), (43, #[.int .i64 k, .int .i64 d, .int .i64 no, .int .i64 p, .int .i64 q]), (37, #[.int .i64 0, .slice none 0 0, .slice none 0 0])] (((w2.setCell ⟨w.heap.size + 3, 0, none⟩ (.int .i64 0)).setCell ⟨w.heap.size + 3, 1, none⟩ (.slice none 0 0)).setCell ⟨w.heap.size + 3, 2, none⟩ (.slice none 0 0))) := ((EY.set 3 0 _ rfl).set 3 1 _ rfl).set 3 2 _ rfl
  go_wp2_with fail
  clear d0 d1 d2 y0 y1 y2;generalize World.setCell (World.setCell (World.setCell w2 _ _) _ _) _ _ = z at *;obtain ⟨q0, q1, q2⟩ := HF.b3.d3;exact bodyPost_ret (v := .tuple #[.slice none 0 0, .slice none 0 0, .agg #[.int .i64 0, .slice none 0 0, .slice none 0 0], .int .i64 E]) (by simp [results, results29, go_sem, q0, q1, q2]) rfl ⟨.inl ⟨by rw [← Cu.out]; exact Ht, by rw [← Cu.out]⟩, HF.l⟩
 subst he;have Bv := iD (qH Cu.symm);have Gp := iD (eC Cu.symm);have AG : nd ≤ 64 := by have := (xk.of (zS Bv.1.s).1).dl; omega
 have Bq : nn ≤ 32 := by have := (xk.of (zS Bv.1.s).1).nl; omega
 have Hg : nl ≤ 128 := by have := (yw Bv.1.l).1; dsimp only at this; omega
 have TQ : np ≤ 32 := by have := rV Bv.1.p; dsimp only at this; omega
 have hsl := (zS Bv.1.s).2.1;dsimp only at hsl;obtain ⟨O, hO⟩ := eX (zn ns ds co ⟨m, ls, pr⟩ ⟨k, d, no, p, q⟩);have Cj := iD hO;clear hO;go_upto_region 4 with (fail);refine fv (fun W' => Bw w [(30, #[.slice An nn cn, .slice Ad nd cd]), (37, #[.int .i64 co, .slice Al nl cl, .slice Ap np cp]), (43, #[.int .i64 k, .int .i64 d, .int .i64 no, .int .i64 p, .int .i64 q]), (37, #[.int .i64 0, .slice none 0 0, .slice none 0 0])] W') [15] ?_ fun AA => ?_
 ·exact EY.drew
 try dsimp only at AA
 refine ty 0 27 (mf 16 1) AA (y := by intro w AL; have k0 := AL.b0.cell 0; have k1 := AL.b0.cell 1; go_simp; try with_reducible rfl) (h := ?_);refine tk 1 28 (mf 16 2) AA ?_;refine ty 3 30 (ma 16 11) AA (y := by intro w AL; have g0 := AL.b1.cell 0; have g1 := AL.b1.cell 1; have g2 := AL.b1.cell 2; go_simp; try with_reducible rfl) (h := ?_);refine ty 6 33 (ma 16 75) AA (y := by intro w AL; have s0 := AL.b2.cell 0; have s1 := AL.b2.cell 1; have s2 := AL.b2.cell 2; have s3 := AL.b2.cell 3; have s4 := AL.b2.cell 4; go_simp; try with_reducible rfl) (h := ?_);refine yM (i := 2) (k := 12) (ma 16 79) (ma 16 4171) (by kernel_rfl) (by kernel_rfl) (by kernel_rfl) rfl rfl (fun K hK => ?_) (fun K hK => ?_)
 focus
  (have Sg := iD AA.l.size; go_simp; refine (yo As n c _ m w2.drew (HH.below AA.l).hs lR (by omega)).mono ?_; rintro e w3 ⟨A2, c2, rfl, Dc, AZ⟩; rw [ES] at Dc ⊢; have Ay := iD (World.ownsRow.mono Dc Sg); have BZ := iD AZ.out; clear Dc AZ; go_simp)
  refine hK _ _ (fun _ => AA.later BZ.out) fun p => (fun AA => ?_) (p rfl)
  clear p hK K;(try dsimp only at AA);clear BZ;refine yM (i := 4) (k := 12) (ma 16 95) (ma 16 4175) (by kernel_rfl) (by kernel_rfl) (by kernel_rfl) rfl rfl (fun K hK => ?_) (fun K hK => ?_)
  focus
   (have JF := iD AA.l.size; go_simp; refine (wn Al Ap nl cl np cp _ co ls pr w3 (HH.below AA.l).hl (HH.below AA.l).hp lR (by omega) (by omega)).mono ?_; rintro e w4 ⟨A3, A4, c3, c4, rfl, Ep, EA, AZ⟩; have Az := iD (World.ownsRow.mono Ep JF); have BC := iD (World.ownsRow.mono EA JF); have BZ := iD AZ.out; clear Ep EA AZ; go_simp)
   refine hK _ _ (fun _ => AA.later BZ.out) fun p => (fun AA => ?_) (p rfl)
   clear p hK K;(try dsimp only at AA);have Ay := iD (zI Ay BZ);clear BZ;refine tk 5 32 (mf 16 7) AA ?_;refine yM (i := 7) (k := 12) (mf 16 8) (ma 16 4223) (by kernel_rfl) (by kernel_rfl) (by kernel_rfl) rfl rfl (fun K hK => ?_) (fun K hK => ?_)
   focus
    (have Iy := iD AA.b3.lt; go_simp; refine (vB An Ad A2 A3 A4 nn cn nd cd n c2 nl c3 np c4 ns ds m ls pr co k d no p q w4 ⟨(HH.below AA.l).hn, (HH.below AA.l).hd, Sl.of_own Ay, Sl.of_own Az, Sl.of_own BC, (HH.below AA.l).la, (HH.below AA.l).sn, (HH.below AA.l).sd⟩ Bv.1 Gp Bv.2.1).mono ?_; rw [← Cj.out]; rintro e w6 ⟨B1, B2, B3, B4, m1, e1, m2, e2, m3, e3, m4, e4, rfl, hS, hF, AZ⟩; have CZ := iD hS.out; have Dj := iD hF.out; have BZ := iD AZ.out; clear hS hF AZ; go_simp)
    refine hK _ _ (fun _ => AA.later BZ.out) fun p => (fun AA => ?_) (p rfl)
    clear p hK K;(try dsimp only at AA);have Ay := iD (zI Ay BZ);have Az := iD (zI Az BZ);have BC := iD (zI BC BZ);clear BZ;refine tk 8 26 (mf 16 9) AA ?_;refine tk 9 35 (mf 16 10) AA ?_;refine tk 10 36 (mf 16 11) AA ?_;refine tk 11 37 (mf 16 12) AA ?_;refine tb 12 (mf 16 13) fun K hK => ?_
    (have Ia := iD AA.b3.lt; go_simp)
    refine hK _ _ (fun _ => AA.later ((Below.refl _ _).alloc lR _)) fun p => (fun AA => ?_) (p rfl)
    clear p hK K;(try dsimp only at AA);have Dz : Hid (Below w6.heap.size w6 (w6.alloc (.cells #[.slice none 0 0, .int .i64 0, .slice none 0 0, .slice none 0 0, .bool false] 96))) := (Below.refl w6.heap.size w6).alloc lR (.cells #[.slice none 0 0, .int .i64 0, .slice none 0 0, .slice none 0 0, .bool false] 96);have HX : Hid (AJ (w6.alloc (.cells #[.slice none 0 0, .int .i64 0, .slice none 0 0, .slice none 0 0, .bool false] 96)) w6.heap.size 96 #[.slice none 0 0, .int .i64 0, .slice none 0 0, .slice none 0 0, .bool false]) := AJ.new w6 96 #[.slice none 0 0, .int .i64 0, .slice none 0 0, .slice none 0 0, .bool false];generalize World.alloc w6 _ = wa at *;have Ay := iD (zI Ay Dz);have Az := iD (zI Az Dz);have BC := iD (zI BC Dz)
    have CZ : Hid (O.e = 0 → xF wa B1 B2 B3 B4 m1 e1 m2 e2 m3 e3 m4 e4 ⟨O.h, O.t, true⟩ ∧ Nz w6.heap.size B1 B2 B3 B4 m1 m2 m3 m4) := fun h0 => ⟨(CZ h0).later Dz, Nz.new (CZ h0) lR⟩
    obtain ⟨x, DI⟩ := eX w6.heap.size;rw [← DI] at HX CZ ⊢;have CE : Hid (w.heap.size + 4 ≤ x) := by unfold Hid; rw [DI]; exact Ia.out
    have Cz : Hid (x < wa.heap.size) := HX.lt;clear DI Dz;refine tk 13 13 (mf 16 14) AA ?_;have EK := iD AA;obtain ⟨k0, k1, k2, k3, k4⟩ := HX.d5;obtain ⟨z0, z1, z2, z3⟩ := HX.e4;have z4 := HX.frozen 4;refine tb 14 (mf 16 15) fun K hK => ?_
    go_simp
    refine hK _ _ (fun _ => ((((AA.put CE 0 _).put CE 1 _).put CE 2 _).put CE 3 _).put CE 4 _) fun p => (fun AA => ?_) (p rfl)
    clear p hK K;(try dsimp only at AA);refine tb 15 (mf 16 16) fun K hK => ?_
    go_simp
    refine hK _ _ (fun h => by cases h) (fun _ => ?_)
    try clear AA
    clear hK K;refine tK ?_;have DX : Hid (w.heap.size + 3 < w4.heap.size) := Iy.out;have PY : Hid (Nz (w.heap.size + 3) B1 B2 B3 B4 m1 m2 m3 m4) := ⟨zf Dj.1 (fun b off e => by cases e) DX, zf Dj.2.1 (zO Ay EK.b3 (by decide)) DX, zf Dj.2.2.1 (zO Az EK.b3 (by decide)) DX, zf Dj.2.2.2 (zO BC EK.b3 (by decide)) DX⟩
    have AB : Hid (mN w.heap.size B1 B2 B3 B4) := by
     obtain ⟨f1, f2, f3, f4⟩ := Dj.out;refine ⟨fun b off e => ?_, fun b off e => ?_, fun b off e => ?_, fun b off e => ?_⟩
     ·rcases f1 with ⟨h, -⟩ | h
      ·rw [h] at e; cases e
      ·have := h b off e; have := DX.out; omega
     ·rcases f2 with ⟨h, -⟩ | h
      ·rw [h] at e; exact yj Ay b off e
      ·have := h b off e; have := DX.out; omega
     ·rcases f3 with ⟨h, -⟩ | h
      ·rw [h] at e; exact yj Az b off e
      ·have := h b off e; have := DX.out; omega
     ·rcases f4 with ⟨h, -⟩ | h
      ·rw [h] at e; exact yj BC b off e
      ·have := h b off e; have := DX.out; omega
    have QZ : Hid (O.e = 0 → xF (st5 wa x (.slice B2 m2 e2) (.int .i64 co) (.slice B3 m3 e3) (.slice B4 m4 e4) (.bool O.ov)) B1 B2 B3 B4 m1 e1 m2 e2 m3 e3 m4 e4 ⟨O.h, O.t, true⟩) := fun h0 => (CZ h0).1.st5 (CZ h0).2
    have LY : Hid (Bw w [(30, #[.slice An nn cn, .slice Ad nd cd]), (37, #[.int .i64 co, .slice Al nl cl, .slice Ap np cp]), (43, #[.int .i64 k, .int .i64 d, .int .i64 no, .int .i64 p, .int .i64 q]), (37, #[.int .i64 0, .slice none 0 0, .slice none 0 0])] (st5 wa x (.slice B2 m2 e2) (.int .i64 co) (.slice B3 m3 e3) (.slice B4 m4 e4) (.bool O.ov))) := ((((EK.put CE 0 _).put CE 1 _).put CE 2 _).put CE 3 _).put CE 4 _;have NJ : Hid (AJ (st5 wa x (.slice B2 m2 e2) (.int .i64 co) (.slice B3 m3 e3) (.slice B4 m4 e4) (.bool O.ov)) x 96 #[.slice B2 m2 e2, .int .i64 co, .slice B3 m3 e3, .slice B4 m4 e4, .bool O.ov]) := ((((HX.set 0 _).set 1 _).set 2 _).set 3 _).set 4 _;unfold st5 at QZ LY NJ;clear k0 k1 k2 k3 k4 z0 z1 z2 z3 z4 CZ HX EK Dj Ay Az BC Iy DX Cz;generalize World.setCell (World.setCell (World.setCell (World.setCell (World.setCell wa _ _) _ _) _ _) _ _) _ _ = z at *
   rotate_left 1
   focus
    (have Ia := iD AA.b3.lt; go_simp)
    refine hK _ _ (fun _ => AA.later ((Below.refl _ _).alloc lR _)) fun p => (fun AA => ?_) (p rfl)
    clear p hK K;(try dsimp only at AA);have Dz : Hid (Below w4.heap.size w4 (w4.alloc (.cells #[.slice none 0 0, .int .i64 0, .slice none 0 0, .slice none 0 0, .bool false] 96))) := (Below.refl w4.heap.size w4).alloc lR (.cells #[.slice none 0 0, .int .i64 0, .slice none 0 0, .slice none 0 0, .bool false] 96);have HX : Hid (AJ (w4.alloc (.cells #[.slice none 0 0, .int .i64 0, .slice none 0 0, .slice none 0 0, .bool false] 96)) w4.heap.size 96 #[.slice none 0 0, .int .i64 0, .slice none 0 0, .slice none 0 0, .bool false]) := AJ.new w4 96 #[.slice none 0 0, .int .i64 0, .slice none 0 0, .slice none 0 0, .bool false];generalize World.alloc w4 _ = wa at *;have Ay := iD (zI Ay Dz);have Az := iD (zI Az Dz);have BC := iD (zI BC Dz);obtain ⟨x, DI⟩ := eX w4.heap.size;rw [← DI] at HX ⊢;have CE : Hid (w.heap.size + 4 ≤ x) := by unfold Hid; rw [DI]; exact Ia.out
    have Cz : Hid (x < wa.heap.size) := HX.lt;clear DI Dz;refine tb 7 (ma 16 4351) fun K hK => ?_
    (have Iy := iD AA.b3.lt; go_simp; refine (vB An Ad A2 A3 A4 nn cn nd cd n c2 nl c3 np c4 ns ds m ls pr co k d no p q wa ⟨(HH.below AA.l).hn, (HH.below AA.l).hd, Sl.of_own Ay, Sl.of_own Az, Sl.of_own BC, (HH.below AA.l).la, (HH.below AA.l).sn, (HH.below AA.l).sd⟩ Bv.1 Gp Bv.2.1).mono ?_; rw [← Cj.out]; rintro e w6 ⟨B1, B2, B3, B4, m1, e1, m2, e2, m3, e3, m4, e4, rfl, hS, hF, AZ⟩; have CZ := iD hS.out; have Dj := iD hF.out; have BZ := iD AZ.out; clear hS hF AZ; go_simp)
    refine hK _ _ (fun _ => AA.later BZ.out) fun p => (fun AA => ?_) (p rfl)
    clear p hK K;(try dsimp only at AA);have Ay := iD (zI Ay BZ);have Az := iD (zI Az BZ);have BC := iD (zI BC BZ);have HX := iD (HX.below BZ HX.lt);have Ib : Hid (x < wa.heap.size) := Cz.out;have Cz : Hid (x < w6.heap.size) := HX.lt;clear BZ;refine tk 8 26 (ma 16 4607) AA ?_;refine tk 9 35 (ma 16 5119) AA ?_;refine tk 10 36 (ma 16 6143) AA ?_;refine tk 11 37 (mf 16 13) AA ?_;refine tk 13 13 (mf 16 14) AA ?_;have EK := iD AA;obtain ⟨k0, k1, k2, k3, k4⟩ := HX.d5;obtain ⟨z0, z1, z2, z3⟩ := HX.e4;have z4 := HX.frozen 4;refine tb 14 (mf 16 15) fun K hK => ?_
    go_simp
    refine hK _ _ (fun _ => ((((AA.put CE 0 _).put CE 1 _).put CE 2 _).put CE 3 _).put CE 4 _) fun p => (fun AA => ?_) (p rfl)
    clear p hK K;(try dsimp only at AA);refine tb 15 (mf 16 16) fun K hK => ?_
    go_simp
    refine hK _ _ (fun h => by cases h) (fun _ => ?_)
    try clear AA
    clear hK K;refine tK ?_;have DX : Hid (w.heap.size + 3 < wa.heap.size) := Iy.out;have PY : Hid (Nz (w.heap.size + 3) B1 B2 B3 B4 m1 m2 m3 m4) := ⟨zf Dj.1 (fun b off e => by cases e) DX, zf Dj.2.1 (zO Ay EK.b3 (by decide)) DX, zf Dj.2.2.1 (zO Az EK.b3 (by decide)) DX, zf Dj.2.2.2 (zO BC EK.b3 (by decide)) DX⟩
    have AB : Hid (mN w.heap.size B1 B2 B3 B4) := by
     obtain ⟨f1, f2, f3, f4⟩ := Dj.out;refine ⟨fun b off e => ?_, fun b off e => ?_, fun b off e => ?_, fun b off e => ?_⟩
     ·rcases f1 with ⟨h, -⟩ | h
      ·rw [h] at e; cases e
      ·have := h b off e; have := DX.out; omega
     ·rcases f2 with ⟨h, -⟩ | h
      ·rw [h] at e; exact yj Ay b off e
      ·have := h b off e; have := DX.out; omega
     ·rcases f3 with ⟨h, -⟩ | h
      ·rw [h] at e; exact yj Az b off e
      ·have := h b off e; have := DX.out; omega
     ·rcases f4 with ⟨h, -⟩ | h
      ·rw [h] at e; exact yj BC b off e
      ·have := h b off e; have := DX.out; omega
    have QZ : Hid (O.e = 0 → xF (st5 w6 x (.slice B2 m2 e2) (.int .i64 co) (.slice B3 m3 e3) (.slice B4 m4 e4) (.bool O.ov)) B1 B2 B3 B4 m1 e1 m2 e2 m3 e3 m4 e4 ⟨O.h, O.t, true⟩) := fun h0 => (CZ h0).st5 ⟨zf Dj.1 (fun b off e => by cases e) Ib, zf Dj.2.1 (zO Ay HX (by decide)) Ib, zf Dj.2.2.1 (zO Az HX (by decide)) Ib, zf Dj.2.2.2 (zO BC HX (by decide)) Ib⟩
    have LY : Hid (Bw w [(30, #[.slice An nn cn, .slice Ad nd cd]), (37, #[.int .i64 co, .slice Al nl cl, .slice Ap np cp]), (43, #[.int .i64 k, .int .i64 d, .int .i64 no, .int .i64 p, .int .i64 q]), (37, #[.int .i64 0, .slice none 0 0, .slice none 0 0])] (st5 w6 x (.slice B2 m2 e2) (.int .i64 co) (.slice B3 m3 e3) (.slice B4 m4 e4) (.bool O.ov))) := ((((EK.put CE 0 _).put CE 1 _).put CE 2 _).put CE 3 _).put CE 4 _;have NJ : Hid (AJ (st5 w6 x (.slice B2 m2 e2) (.int .i64 co) (.slice B3 m3 e3) (.slice B4 m4 e4) (.bool O.ov)) x 96 #[.slice B2 m2 e2, .int .i64 co, .slice B3 m3 e3, .slice B4 m4 e4, .bool O.ov]) := ((((HX.set 0 _).set 1 _).set 2 _).set 3 _).set 4 _;unfold st5 at QZ LY NJ;clear k0 k1 k2 k3 k4 z0 z1 z2 z3 z4 CZ HX EK Dj Ay Az BC Iy DX Cz;generalize World.setCell (World.setCell (World.setCell (World.setCell (World.setCell w6 _ _) _ _) _ _) _ _) _ _ = z at *
   rotate_left 1
  rotate_left 2
  focus
   (have Ia := iD AA.b3.lt; go_simp)
   refine hK _ _ (fun _ => AA.later ((Below.refl _ _).alloc lR _)) fun p => (fun AA => ?_) (p rfl)
   clear p hK K;(try dsimp only at AA);have Dz : Hid (Below w3.heap.size w3 (w3.alloc (.cells #[.slice none 0 0, .int .i64 0, .slice none 0 0, .slice none 0 0, .bool false] 96))) := (Below.refl w3.heap.size w3).alloc lR (.cells #[.slice none 0 0, .int .i64 0, .slice none 0 0, .slice none 0 0, .bool false] 96);have HX : Hid (AJ (w3.alloc (.cells #[.slice none 0 0, .int .i64 0, .slice none 0 0, .slice none 0 0, .bool false] 96)) w3.heap.size 96 #[.slice none 0 0, .int .i64 0, .slice none 0 0, .slice none 0 0, .bool false]) := AJ.new w3 96 #[.slice none 0 0, .int .i64 0, .slice none 0 0, .slice none 0 0, .bool false];generalize World.alloc w3 _ = wa at *;have Ay := iD (zI Ay Dz);obtain ⟨x, DI⟩ := eX w3.heap.size;rw [← DI] at HX ⊢;have CE : Hid (w.heap.size + 4 ≤ x) := by unfold Hid; rw [DI]; exact Ia.out
   have Cz : Hid (x < wa.heap.size) := HX.lt;clear DI Dz;refine tb 4 (ma 16 4191) fun K hK => ?_
   (have JF := iD AA.l.size; go_simp; refine (wn Al Ap nl cl np cp _ co ls pr wa (HH.below AA.l).hl (HH.below AA.l).hp lR (by omega) (by omega)).mono ?_; rintro e w4 ⟨A3, A4, c3, c4, rfl, Ep, EA, AZ⟩; have Az := iD (World.ownsRow.mono Ep JF); have BC := iD (World.ownsRow.mono EA JF); have BZ := iD AZ.out; clear Ep EA AZ; go_simp)
   refine hK _ _ (fun _ => AA.later BZ.out) fun p => (fun AA => ?_) (p rfl)
   clear p hK K;(try dsimp only at AA);have Ay := iD (zI Ay BZ);have HX := iD (HX.below BZ HX.lt);have Cz : Hid (x < w4.heap.size) := HX.lt;clear BZ;refine tk 5 32 (ma 16 4223) AA ?_;refine tb 7 (ma 16 4351) fun K hK => ?_
   (have Iy := iD AA.b3.lt; go_simp; refine (vB An Ad A2 A3 A4 nn cn nd cd n c2 nl c3 np c4 ns ds m ls pr co k d no p q w4 ⟨(HH.below AA.l).hn, (HH.below AA.l).hd, Sl.of_own Ay, Sl.of_own Az, Sl.of_own BC, (HH.below AA.l).la, (HH.below AA.l).sn, (HH.below AA.l).sd⟩ Bv.1 Gp Bv.2.1).mono ?_; rw [← Cj.out]; rintro e w6 ⟨B1, B2, B3, B4, m1, e1, m2, e2, m3, e3, m4, e4, rfl, hS, hF, AZ⟩; have CZ := iD hS.out; have Dj := iD hF.out; have BZ := iD AZ.out; clear hS hF AZ; go_simp)
   refine hK _ _ (fun _ => AA.later BZ.out) fun p => (fun AA => ?_) (p rfl)
   clear p hK K;(try dsimp only at AA);have Ay := iD (zI Ay BZ);have Az := iD (zI Az BZ);have BC := iD (zI BC BZ);have HX := iD (HX.below BZ HX.lt);have Ib : Hid (x < w4.heap.size) := Cz.out;have Cz : Hid (x < w6.heap.size) := HX.lt;clear BZ;refine tk 8 26 (ma 16 4607) AA ?_;refine tk 9 35 (ma 16 5119) AA ?_;refine tk 10 36 (ma 16 6143) AA ?_;refine tk 11 37 (mf 16 13) AA ?_;refine tk 13 13 (mf 16 14) AA ?_;have EK := iD AA;obtain ⟨k0, k1, k2, k3, k4⟩ := HX.d5;obtain ⟨z0, z1, z2, z3⟩ := HX.e4;have z4 := HX.frozen 4;refine tb 14 (mf 16 15) fun K hK => ?_
   go_simp
   refine hK _ _ (fun _ => ((((AA.put CE 0 _).put CE 1 _).put CE 2 _).put CE 3 _).put CE 4 _) fun p => (fun AA => ?_) (p rfl)
   clear p hK K;(try dsimp only at AA);refine tb 15 (mf 16 16) fun K hK => ?_
   go_simp
   refine hK _ _ (fun h => by cases h) (fun _ => ?_)
   try clear AA
   clear hK K;refine tK ?_;have DX : Hid (w.heap.size + 3 < w4.heap.size) := Iy.out;have PY : Hid (Nz (w.heap.size + 3) B1 B2 B3 B4 m1 m2 m3 m4) := ⟨zf Dj.1 (fun b off e => by cases e) DX, zf Dj.2.1 (zO Ay EK.b3 (by decide)) DX, zf Dj.2.2.1 (zO Az EK.b3 (by decide)) DX, zf Dj.2.2.2 (zO BC EK.b3 (by decide)) DX⟩
   have AB : Hid (mN w.heap.size B1 B2 B3 B4) := by
    obtain ⟨f1, f2, f3, f4⟩ := Dj.out;refine ⟨fun b off e => ?_, fun b off e => ?_, fun b off e => ?_, fun b off e => ?_⟩
    ·rcases f1 with ⟨h, -⟩ | h
     ·rw [h] at e; cases e
     ·have := h b off e; have := DX.out; omega
    ·rcases f2 with ⟨h, -⟩ | h
     ·rw [h] at e; exact yj Ay b off e
     ·have := h b off e; have := DX.out; omega
    ·rcases f3 with ⟨h, -⟩ | h
     ·rw [h] at e; exact yj Az b off e
     ·have := h b off e; have := DX.out; omega
    ·rcases f4 with ⟨h, -⟩ | h
     ·rw [h] at e; exact yj BC b off e
     ·have := h b off e; have := DX.out; omega
   have QZ : Hid (O.e = 0 → xF (st5 w6 x (.slice B2 m2 e2) (.int .i64 co) (.slice B3 m3 e3) (.slice B4 m4 e4) (.bool O.ov)) B1 B2 B3 B4 m1 e1 m2 e2 m3 e3 m4 e4 ⟨O.h, O.t, true⟩) := fun h0 => (CZ h0).st5 ⟨zf Dj.1 (fun b off e => by cases e) Ib, zf Dj.2.1 (zO Ay HX (by decide)) Ib, zf Dj.2.2.1 (zO Az HX (by decide)) Ib, zf Dj.2.2.2 (zO BC HX (by decide)) Ib⟩
   have LY : Hid (Bw w [(30, #[.slice An nn cn, .slice Ad nd cd]), (37, #[.int .i64 co, .slice Al nl cl, .slice Ap np cp]), (43, #[.int .i64 k, .int .i64 d, .int .i64 no, .int .i64 p, .int .i64 q]), (37, #[.int .i64 0, .slice none 0 0, .slice none 0 0])] (st5 w6 x (.slice B2 m2 e2) (.int .i64 co) (.slice B3 m3 e3) (.slice B4 m4 e4) (.bool O.ov))) := ((((EK.put CE 0 _).put CE 1 _).put CE 2 _).put CE 3 _).put CE 4 _;have NJ : Hid (AJ (st5 w6 x (.slice B2 m2 e2) (.int .i64 co) (.slice B3 m3 e3) (.slice B4 m4 e4) (.bool O.ov)) x 96 #[.slice B2 m2 e2, .int .i64 co, .slice B3 m3 e3, .slice B4 m4 e4, .bool O.ov]) := ((((HX.set 0 _).set 1 _).set 2 _).set 3 _).set 4 _;unfold st5 at QZ LY NJ;clear k0 k1 k2 k3 k4 z0 z1 z2 z3 z4 CZ HX EK Dj Ay Az BC Iy DX Cz;generalize World.setCell (World.setCell (World.setCell (World.setCell (World.setCell w6 _ _) _ _) _ _) _ _) _ _ = z at *
  rotate_left 1
 rotate_left 3
 focus
  go_simp
  refine hK _ _ (fun _ => EY.later ((Below.refl w2.heap.size w2).alloc lR (.cells #[.slice none 0 0, .int .i64 0, .slice none 0 0, .slice none 0 0, .bool false] 96)).drew) fun p => (fun AA => ?_) (p rfl)
  clear p hK K;(try dsimp only at AA);have Dz : Hid (Below w2.heap.size w2 (w2.alloc (.cells #[.slice none 0 0, .int .i64 0, .slice none 0 0, .slice none 0 0, .bool false] 96)).drew) := ((Below.refl w2.heap.size w2).alloc lR (.cells #[.slice none 0 0, .int .i64 0, .slice none 0 0, .slice none 0 0, .bool false] 96)).drew;have HX : Hid (AJ (w2.alloc (.cells #[.slice none 0 0, .int .i64 0, .slice none 0 0, .slice none 0 0, .bool false] 96)).drew w2.heap.size 96 #[.slice none 0 0, .int .i64 0, .slice none 0 0, .slice none 0 0, .bool false]) := AJ.new w2 96 #[.slice none 0 0, .int .i64 0, .slice none 0 0, .slice none 0 0, .bool false];have CE : Hid (w.heap.size + 4 ≤ w2.heap.size) := EY.b3.lt;generalize World.drew (World.alloc w2 _) = wa at *;obtain ⟨x, DI⟩ := eX w2.heap.size;rw [← DI] at HX CE ⊢;have Cz : Hid (x < wa.heap.size) := HX.lt;clear DI Dz;refine tb 2 (ma 16 4175) fun K hK => ?_
  (have Sg := iD AA.l.size; go_simp; refine (yo As n c _ m wa (HH.below AA.l).hs lR (by omega)).mono ?_; rintro e w3 ⟨A2, c2, rfl, Dc, AZ⟩; rw [ES] at Dc ⊢; have Ay := iD (World.ownsRow.mono Dc Sg); have BZ := iD AZ.out; clear Dc AZ; go_simp)
  refine hK _ _ (fun _ => AA.later BZ.out) fun p => (fun AA => ?_) (p rfl)
  clear p hK K;(try dsimp only at AA);have HX := iD (HX.below BZ HX.lt);have Cz : Hid (x < w3.heap.size) := HX.lt;clear BZ;refine tb 4 (ma 16 4191) fun K hK => ?_
  (have JF := iD AA.l.size; go_simp; refine (wn Al Ap nl cl np cp _ co ls pr w3 (HH.below AA.l).hl (HH.below AA.l).hp lR (by omega) (by omega)).mono ?_; rintro e w4 ⟨A3, A4, c3, c4, rfl, Ep, EA, AZ⟩; have Az := iD (World.ownsRow.mono Ep JF); have BC := iD (World.ownsRow.mono EA JF); have BZ := iD AZ.out; clear Ep EA AZ; go_simp)
  refine hK _ _ (fun _ => AA.later BZ.out) fun p => (fun AA => ?_) (p rfl)
  clear p hK K;(try dsimp only at AA);have Ay := iD (zI Ay BZ);have HX := iD (HX.below BZ HX.lt);have Cz : Hid (x < w4.heap.size) := HX.lt;clear BZ;refine tk 5 32 (ma 16 4223) AA ?_;refine tb 7 (ma 16 4351) fun K hK => ?_
  (have Iy := iD AA.b3.lt; go_simp; refine (vB An Ad A2 A3 A4 nn cn nd cd n c2 nl c3 np c4 ns ds m ls pr co k d no p q w4 ⟨(HH.below AA.l).hn, (HH.below AA.l).hd, Sl.of_own Ay, Sl.of_own Az, Sl.of_own BC, (HH.below AA.l).la, (HH.below AA.l).sn, (HH.below AA.l).sd⟩ Bv.1 Gp Bv.2.1).mono ?_; rw [← Cj.out]; rintro e w6 ⟨B1, B2, B3, B4, m1, e1, m2, e2, m3, e3, m4, e4, rfl, hS, hF, AZ⟩; have CZ := iD hS.out; have Dj := iD hF.out; have BZ := iD AZ.out; clear hS hF AZ; go_simp)
  refine hK _ _ (fun _ => AA.later BZ.out) fun p => (fun AA => ?_) (p rfl)
  clear p hK K;(try dsimp only at AA);have Ay := iD (zI Ay BZ);have Az := iD (zI Az BZ);have BC := iD (zI BC BZ);have HX := iD (HX.below BZ HX.lt);have Ib : Hid (x < w4.heap.size) := Cz.out;have Cz : Hid (x < w6.heap.size) := HX.lt;clear BZ;refine tk 8 26 (ma 16 4607) AA ?_;refine tk 9 35 (ma 16 5119) AA ?_;refine tk 10 36 (ma 16 6143) AA ?_;refine tk 11 37 (mf 16 13) AA ?_;refine tk 13 13 (mf 16 14) AA ?_;have EK := iD AA;obtain ⟨k0, k1, k2, k3, k4⟩ := HX.d5;obtain ⟨z0, z1, z2, z3⟩ := HX.e4;have z4 := HX.frozen 4;refine tb 14 (mf 16 15) fun K hK => ?_
  go_simp
  refine hK _ _ (fun _ => ((((AA.put CE 0 _).put CE 1 _).put CE 2 _).put CE 3 _).put CE 4 _) fun p => (fun AA => ?_) (p rfl)
  clear p hK K;(try dsimp only at AA);refine tb 15 (mf 16 16) fun K hK => ?_
  go_simp
  refine hK _ _ (fun h => by cases h) (fun _ => ?_)
  try clear AA
  clear hK K;refine tK ?_;have DX : Hid (w.heap.size + 3 < w4.heap.size) := Iy.out;have PY : Hid (Nz (w.heap.size + 3) B1 B2 B3 B4 m1 m2 m3 m4) := ⟨zf Dj.1 (fun b off e => by cases e) DX, zf Dj.2.1 (zO Ay EK.b3 (by decide)) DX, zf Dj.2.2.1 (zO Az EK.b3 (by decide)) DX, zf Dj.2.2.2 (zO BC EK.b3 (by decide)) DX⟩
  have AB : Hid (mN w.heap.size B1 B2 B3 B4) := by
   obtain ⟨f1, f2, f3, f4⟩ := Dj.out;refine ⟨fun b off e => ?_, fun b off e => ?_, fun b off e => ?_, fun b off e => ?_⟩
   ·rcases f1 with ⟨h, -⟩ | h
    ·rw [h] at e; cases e
    ·have := h b off e; have := DX.out; omega
   ·rcases f2 with ⟨h, -⟩ | h
    ·rw [h] at e; exact yj Ay b off e
    ·have := h b off e; have := DX.out; omega
   ·rcases f3 with ⟨h, -⟩ | h
    ·rw [h] at e; exact yj Az b off e
    ·have := h b off e; have := DX.out; omega
   ·rcases f4 with ⟨h, -⟩ | h
    ·rw [h] at e; exact yj BC b off e
    ·have := h b off e; have := DX.out; omega
  have QZ : Hid (O.e = 0 → xF (st5 w6 x (.slice B2 m2 e2) (.int .i64 co) (.slice B3 m3 e3) (.slice B4 m4 e4) (.bool O.ov)) B1 B2 B3 B4 m1 e1 m2 e2 m3 e3 m4 e4 ⟨O.h, O.t, true⟩) := fun h0 => (CZ h0).st5 ⟨zf Dj.1 (fun b off e => by cases e) Ib, zf Dj.2.1 (zO Ay HX (by decide)) Ib, zf Dj.2.2.1 (zO Az HX (by decide)) Ib, zf Dj.2.2.2 (zO BC HX (by decide)) Ib⟩
  have LY : Hid (Bw w [(30, #[.slice An nn cn, .slice Ad nd cd]), (37, #[.int .i64 co, .slice Al nl cl, .slice Ap np cp]), (43, #[.int .i64 k, .int .i64 d, .int .i64 no, .int .i64 p, .int .i64 q]), (37, #[.int .i64 0, .slice none 0 0, .slice none 0 0])] (st5 w6 x (.slice B2 m2 e2) (.int .i64 co) (.slice B3 m3 e3) (.slice B4 m4 e4) (.bool O.ov))) := ((((EK.put CE 0 _).put CE 1 _).put CE 2 _).put CE 3 _).put CE 4 _;have NJ : Hid (AJ (st5 w6 x (.slice B2 m2 e2) (.int .i64 co) (.slice B3 m3 e3) (.slice B4 m4 e4) (.bool O.ov)) x 96 #[.slice B2 m2 e2, .int .i64 co, .slice B3 m3 e3, .slice B4 m4 e4, .bool O.ov]) := ((((HX.set 0 _).set 1 _).set 2 _).set 3 _).set 4 _;unfold st5 at QZ LY NJ;clear k0 k1 k2 k3 k4 z0 z1 z2 z3 z4 CZ HX EK Dj Ay Az BC Iy DX Cz;generalize World.setCell (World.setCell (World.setCell (World.setCell (World.setCell w6 _ _) _ _) _ _) _ _) _ _ = z at *
 rotate_left 1
 all_goals
  clear EY;by_cases he : O.e = 0; rotate_left
  ·have q1 : (O.e != 0) = true := by simpa using he
   have Ht := iD he;clear he;obtain ⟨d0, d1, d2⟩ := LY.b3.d3;obtain ⟨y0, y1, y2⟩ := LY.b3.e3;have HF : Hid (Bw w [(30, #[.slice An nn cn, .slice Ad nd cd]), (37, #[.int .i64 co, .slice Al nl cl, .slice Ap np cp]), (43, #[.int .i64 k, .int .i64 d, .int .i64 no, .int .i64 p, .int .i64 q]), (37, #[.int .i64 0, .slice none 0 0, .slice none 0 0])] (((z.setCell ⟨w.heap.size + 3, 0, none⟩ (.int .i64 0)).setCell ⟨w.heap.size + 3, 1, none⟩ (.slice none 0 0)).setCell ⟨w.heap.size + 3, 2, none⟩ (.slice none 0 0))) := ((LY.set 3 0 _ rfl).set 3 1 _ rfl).set 3 2 _ rfl
   go_wp2_with fail
   clear d0 d1 d2 y0 y1 y2;generalize World.setCell (World.setCell (World.setCell z _ _) _ _) _ _ = u at *;obtain ⟨q0, q1, q2⟩ := HF.b3.d3;exact bodyPost_ret (v := .tuple #[.slice none 0 0, .slice none 0 0, .agg #[.int .i64 0, .slice none 0 0, .slice none 0 0], .int .i64 O.e]) (by simp [results, results29, go_sem, q0, q1, q2]) rfl ⟨.inr (.inl ⟨Cu.symm, by rw [← Cj.out]; exact Ht, by rw [← Cj.out]⟩), HF.l⟩
  have q1 : (O.e != 0) = false := by simp [he]
  have Ht := iD he;clear he;go_upto_region 7 with (fail);clear q1;obtain ⟨d0, d1, d2⟩ := LY.b3.d3;obtain ⟨y0, y1, y2⟩ := LY.b3.e3;refine fv (fun W' => W'.cell? ⟨x, 0, none⟩ = some (.slice B2 m2 e2) ∧ W'.cell? ⟨x, 1, none⟩ = some (.int .i64 co) ∧ W'.cell? ⟨x, 2, none⟩ = some (.slice B3 m3 e3) ∧ W'.cell? ⟨x, 3, none⟩ = some (.slice B4 m4 e4)) [7, 8] ?_ fun AA => ?_
  ·exact ⟨NJ.cell 0, NJ.cell 1, NJ.cell 2, NJ.cell 3⟩
  try dsimp only at AA
  refine tk 0 42 (mf 9 1) AA ?_;refine tk 1 43 (mf 9 2) AA ?_;refine tk 2 44 (mf 9 3) AA ?_;refine tk 3 45 (mf 9 4) AA ?_;refine tk 4 46 (mf 9 5) AA ?_;refine tk 5 8 (mf 9 6) AA ?_;refine tk 6 9 (mf 9 7) AA ?_;refine tb 7 (mf 9 8) fun K hK => ?_
  go_simp
  refine hK _ _ (fun h => by cases h) (fun _ => ?_)
  try clear AA
  clear hK K;refine tb 8 (mf 9 9) fun K hK => ?_
  go_simp
  refine hK _ _ (fun h => by cases h) (fun _ => ?_)
  try clear AA
  clear hK K;refine tK ?_;have HF : Hid (Bw w [(30, #[.slice An nn cn, .slice Ad nd cd]), (37, #[.int .i64 co, .slice Al nl cl, .slice Ap np cp]), (43, #[.int .i64 k, .int .i64 d, .int .i64 no, .int .i64 p, .int .i64 q]), (37, #[.int .i64 co, .slice B3 m3 e3, .slice B4 m4 e4])] (((z.setCell ⟨w.heap.size + 3, 0, none⟩ (.int .i64 co)).setCell ⟨w.heap.size + 3, 1, none⟩ (.slice B3 m3 e3)).setCell ⟨w.heap.size + 3, 2, none⟩ (.slice B4 m4 e4)).drew) := (((LY.set 3 0 _ rfl).set 3 1 _ rfl).set 3 2 _ rfl).drew;have AE := iD (((QZ Ht).st3 (a := .int .i64 co) (b := .slice B3 m3 e3) (d := .slice B4 m4 e4) PY).later (Below.refl _ _).drew);clear d0 d1 d2 y0 y1 y2
  go_wp2_with fail
  generalize World.drew (World.setCell (World.setCell (World.setCell z _ _) _ _) _ _) = u at *;obtain ⟨q0, q1, q2⟩ := HF.b3.d3;exact bodyPost_ret (v := .tuple #[.slice B1 m1 e1, .slice B2 m2 e2, .agg #[.int .i64 co, .slice B3 m3 e3, .slice B4 m4 e4], .int .i64 0]) (by simp [results, results29, go_sem, q0, q1, q2]) rfl ⟨.inr (.inr ⟨Cu.symm, by rw [← Cj.out]; exact Ht, _, _, _, _, _, _, _, _, _, _, _, _, rfl, by rw [← Cj.out]; exact AE, AB⟩), HF.l⟩
def Ke (w : World) (ob : Nat) (Ao A : Option Addr) (n : Nat) : Prop := 0 < n → ∀ b off, A = some ⟨b, off, none⟩ → w.heap.size + 6 ≤ b ∧ b ≠ ob ∧ ∀ o', Ao ≠ some ⟨b, o', none⟩
structure RM (w : World) (ob : Nat) (An Ad A5 : Option Addr) (nn cn nd cd n5 c5 : Nat) (co : Int) (pg : Array Value) (As Al Ap Ao : Option Addr) (n c nl cl np cp mo cx : Nat) (t : Sm) (out : List Fn) (wr : World) : Prop where
 b0 : AJ wr w.heap.size 30 #[.slice An nn cn, .slice Ad nd cd]
 b1 : AJ wr (w.heap.size + 1) 22 #[.slice As n c]
 b2 : AJ wr (w.heap.size + 2) 37 #[.int .i64 co, .slice Al nl cl, .slice Ap np cp]
 b3 : AJ wr (w.heap.size + 3) 41 pg
 b4 : AJ wr (w.heap.size + 4) 22 #[.slice A5 n5 c5]
 b5 : AJ wr (w.heap.size + 5) 37 #[.int .i64 0, .slice none 0 0, .slice none 0 0]
 bo : AJ wr ob 45 #[.slice Ao mo cx]
 s : BI wr 1 As n c (zE t.s)
 l : BI wr 3 Al nl cl (t.ls.flatMap Lk.cells)
 p : BI wr 1 Ap np cp (zE t.pr)
 o : wr.ownsRow (ob + 1) 53 2 (.slice Ao mo cx) mo (out.flatMap Fn.cells)
 ks : Ke w ob Ao As n
 kl : Ke w ob Ao Al nl
 kp : Ke w ob Ao Ap np
 bl : bW w wr
 hob : w.heap.size + 6 ≤ ob
structure SK (w : World) (ob x : Nat) (co : Int) (Ao A1 A2 Al Ap : Option Addr) (n1 c1 n2 c2 nl cl np cp : Nat) (o : So) (wr : World) : Prop where
 a : xF wr A1 A2 Al Ap n1 c1 n2 c2 nl cl np cp o
 k1 : Ke w ob Ao A1 n1
 k2 : Ke w ob Ao A2 n2
 kl : Ke w ob Ao Al nl
 kp : Ke w ob Ao Ap np
 bx : AJ wr x 37 #[.int .i64 co, .slice Al nl cl, .slice Ap np cp]
 hx : ob < x ∧ ∀ o', Ao ≠ some ⟨x, o', none⟩
section
variable {w wr wr' : World} {ob : Nat} {An Ad A5 As Al Ap Ao : Option Addr} {nn cn nd cd n5 c5 n c nl cl np cp mo cx : Nat} {co : Int} {pg : Array Value} {t : Sm} {out : List Fn}
theorem RM.later (h : RM w ob An Ad A5 nn cn nd cd n5 c5 co pg As Al Ap Ao n c nl cl np cp mo cx t out wr) (hb : bW wr wr') : RM w ob An Ad A5 nn cn nd cd n5 c5 co pg As Al Ap Ao n c nl cl np cp mo cx t out wr' :=
 ⟨h.b0.below hb h.b0.lt, h.b1.below hb h.b1.lt, h.b2.below hb h.b2.lt, h.b3.below hb h.b3.lt, h.b4.below hb h.b4.lt, h.b5.below hb h.b5.lt, h.bo.below hb h.bo.lt, (h.s.below hb lR).more hb.size, (h.l.below hb lR).more hb.size, (h.p.below hb lR).more hb.size, zI h.o hb, h.ks, h.kl, h.kp, h.bl.trans (hb.mono h.bl.size), h.hob⟩
theorem Ke.fre {B : Nat} (h : Ke w ob Ao A n) (hf : Ji B A A' n m) (hB : ob < B) (hw : w.heap.size + 6 ≤ ob) (ho : ∀ b o', Ao = some ⟨b, o', none⟩ → b < B) : Ke w ob Ao A' m := by
 intro hm b off e;rcases hf with ⟨hf, hn⟩ | hf
 ·subst hf; exact h (by omega) b off e
 ·have := hf b off e;refine ⟨by omega, by omega, fun o' e2 => ?_⟩;have := ho b o' e2; omega
theorem Sl.kept {row : Option Nat} (h : BI wr size A m d xs) (hg : wr.grownBy wr' row) (ha : 0 < m → ∀ b off, A = some ⟨b, off, none⟩ → some b ≠ row) : BI wr' size A m d xs := by
 obtain ⟨h1, h2, h3, h4, h5⟩ := h;refine ⟨h1, h2, h3, h4, fun h0 => ?_⟩;obtain ⟨b, off, e, hb, hc⟩ := h5 h0;refine ⟨b, off, e, Nat.lt_of_lt_of_le hb hg.size, fun j u hu => ?_⟩;rw [← hc j u hu];exact World.cell?_of_block (hg.block b hb (ha h0 b off e))
theorem ra (A : Option Addr) (m d b : Nat) (h : some b = (Value.slice A m d).ownBlock) (hA : A = none ∨ ∃ g, A = some ⟨g, 0, none⟩) : ∃ o', A = some ⟨b, o', none⟩ := by
 rcases hA with rfl | ⟨g, rfl⟩
 ·cases h
 ·refine ⟨0, ?_⟩; simp [Value.ownBlock] at h; rw [h]
theorem yk {base : Nat} {e : TypeId} (h : wr.ownsRow base e size (.slice A m d) m xs) : A = none ∨ ∃ g, A = some ⟨g, 0, none⟩ ∧ base ≤ g ∧ g < wr.heap.size := by
 have hl := h.lt;rcases h.2 with ⟨h0, -⟩ | ⟨g, cap, cur, h0, hg, -⟩
 ·injection h0 with h0; exact .inl h0
 ·injection h0 with h0; subst h0; exact .inr ⟨g, rfl, hl g rfl⟩
structure Gr (w : World) (ob : Nat) (Ao : Option Addr) (mo cx : Nat) (A' : Option Addr) (cx' : Nat) (wr wr' : World) : Prop where
 g : wr.grownBy wr' (Value.slice Ao mo cx).ownBlock
 at' : (Value.slice A' (mo + 1) cx').ownBlock = (Value.slice Ao mo cx).ownBlock ∨ (Value.slice A' (mo + 1) cx').ownBlock = some wr.heap.size
theorem Ke.grow {cx' : Nat} (h : Ke w ob Ao A m) (hs : BI wr size A m d xs) (hG : Gr w ob Ao mo cx A' cx' wr wr') (hA' : A' = none ∨ ∃ g, A' = some ⟨g, 0, none⟩) (hA : Ao = none ∨ ∃ g, Ao = some ⟨g, 0, none⟩) : Ke w ob A' A m := by
 intro hm b off e;obtain ⟨h1, h2, h3⟩ := h hm b off e;refine ⟨h1, h2, fun o' e2 => ?_⟩;obtain ⟨b', off', e3, hb, -⟩ := hs.2.2.2.2 hm;rw [e] at e3; injection e3 with e3; injection e3 with e3 _; subst e3
 rcases hA' with rfl | ⟨g, rfl⟩
 ·cases e2
 injection e2 with e2; injection e2 with e2 _; subst e2;rcases hG.at' with h4 | h4
 ·obtain ⟨o2, h5⟩ := ra Ao mo cx g (by rw [← h4]; rfl) hA;exact h3 o2 h5
 ·simp [Value.ownBlock] at h4; omega
end
section
variable {w wr wr' : World} {ob x : Nat} {An Ad A5 As Al Ap Ao A1 A2 B3 B4 A' : Option Addr} {nn cn nd cd n5 c5 n c nl cl np cp mo cx n1 c1 n2 c2 m3 e3 m4 e4 cx' : Nat} {co : Int} {pg : Array Value} {t : Sm} {out : List Fn} {so : So} {f : Fn}
theorem mw (h : RM w ob An Ad A5 nn cn nd cd n5 c5 co pg As Al Ap Ao n c nl cl np cp mo cx t out wr) {g : Nat} (hg : g ≤ ob) : some g ≠ (Value.slice Ao mo cx).ownBlock := fun e => by
 have := (h.o.lt g e.symm).1; omega
theorem RM.app (h : RM w ob An Ad A5 nn cn nd cd n5 c5 co pg As Al Ap Ao n c nl cl np cp mo cx t out wr) (hG : Gr w ob Ao mo cx A' cx' wr wr') (hr : wr'.ownsRow (ob + 1) 53 2 (.slice A' (mo + 1) cx') (mo + 1) (out.flatMap Fn.cells ++ f.cells)) :
 RM w ob An Ad A5 nn cn nd cd n5 c5 co pg As Al Ap A' n c nl cl np cp (mo + 1) cx' t (out ++ [f]) (wr'.setCell ⟨ob, 0, none⟩ (.slice A' (mo + 1) cx')) := by
 have hw := h.hob;have fA : Ao = none ∨ ∃ g, Ao = some ⟨g, 0, none⟩ := (yk h.o).imp id fun ⟨g, e, _⟩ => ⟨g, e⟩
 have fA' : A' = none ∨ ∃ g, A' = some ⟨g, 0, none⟩ := (yk hr).imp id fun ⟨g, e, _⟩ => ⟨g, e⟩
 have bk : ∀ {g : Nat} {T : TypeId} {cs : Array Value}, g < ob → AJ wr g T cs → AJ (wr'.setCell ⟨ob, 0, none⟩ (.slice A' (mo + 1) cx')) g T cs := fun {g T cs} hg hb => (hb.grown hG.g (mw h (by omega))).far (by show g ≠ ob; omega) _
 have hsz : wr'.heap.size = (wr'.setCell ⟨ob, 0, none⟩ (.slice A' (mo + 1) cx')).heap.size := by simp [World.setCell]
 have ap : ∀ {A : Option Addr} {m : Nat}, Ke w ob Ao A m → 0 < m → ∀ b off, A = some ⟨b, off, none⟩ → some b ≠ (Value.slice Ao mo cx).ownBlock := fun {A m} hk hm b off e e2 => by
  obtain ⟨o2, h5⟩ := ra Ao mo cx b e2 fA;exact (hk hm b off e).2.2 o2 h5
 have sl : ∀ {A : Option Addr} {m d size : Nat} {xs : List Value}, Ke w ob Ao A m → Sl wr wr.heap.size size A m d xs → Sl (wr'.setCell ⟨ob, 0, none⟩ (.slice A' (mo + 1) cx')) (wr'.setCell ⟨ob, 0, none⟩ (.slice A' (mo + 1) cx')).heap.size size A m d xs := fun {A m d size xs} hk hs => by
  rw [← hsz];have h1 := hs.kept hG.g (ap hk);refine ⟨h1.1, h1.2.1, h1.2.2.1, h1.2.2.2.1, fun hn => ?_⟩;obtain ⟨b, off, e, hb, hc⟩ := h1.2.2.2.2 hn;exact ⟨b, off, e, hb, fun j v hv => (World.cell?_setCell_far wr' ⟨ob, 0, none⟩ ⟨b, off + j, none⟩ _ (fun e2 => (hk hn b off e).2.1 e2.symm)).trans (hc j v hv)⟩
 refine ⟨bk (by omega) h.b0, bk (by omega) h.b1, bk (by omega) h.b2, bk (by omega) h.b3, bk (by omega) h.b4, bk (by omega) h.b5, ?_, sl h.ks h.s, sl h.kl h.l, sl h.kp h.p, ?_, h.ks.grow h.s hG fA' fA, h.kl.grow h.l hG fA' fA, h.kp.grow h.p hG fA' fA, ?_, h.hob⟩
 ·exact (h.bo.grown hG.g (mw h lR)).set 0 _
 ·rw [List.flatMap_append, List.flatMap_cons, List.flatMap_nil, List.append_nil];exact hr.kept (zg _ _ _) (zb fun b e => by have := (hr.lt b e).1; simp; omega)
 ·have hb : Below w.heap.size w wr' := ⟨hG.g.os.trans h.bl.os, hG.g.tape.trans h.bl.tape, hG.g.output.trans h.bl.output, Nat.le_trans h.bl.size hG.g.size, fun i hi => (hG.g.block i (Nat.lt_of_lt_of_le hi h.bl.size) (mw h (by omega))).trans (h.bl.block i hi)⟩;exact hb.setCell (by show w.heap.size ≤ ob; omega) _
theorem SK.app (h : RM w ob An Ad A5 nn cn nd cd n5 c5 co pg As Al Ap Ao n c nl cl np cp mo cx t out wr) (hk : SK w ob x co Ao A1 A2 B3 B4 n1 c1 n2 c2 m3 e3 m4 e4 so wr) (hG : Gr w ob Ao mo cx A' cx' wr wr') (hr : wr'.ownsRow (ob + 1) 53 2 (.slice A' (mo + 1) cx') (mo + 1) (out.flatMap Fn.cells ++ f.cells)) :
 SK w ob x co A' A1 A2 B3 B4 n1 c1 n2 c2 m3 e3 m4 e4 so (wr'.setCell ⟨ob, 0, none⟩ (.slice A' (mo + 1) cx')) := by
 have hw := h.hob;have fA : Ao = none ∨ ∃ g, Ao = some ⟨g, 0, none⟩ := (yk h.o).imp id fun ⟨g, e, _⟩ => ⟨g, e⟩
 have fA' : A' = none ∨ ∃ g, A' = some ⟨g, 0, none⟩ := (yk hr).imp id fun ⟨g, e, _⟩ => ⟨g, e⟩
 have hsz : wr'.heap.size = (wr'.setCell ⟨ob, 0, none⟩ (.slice A' (mo + 1) cx')).heap.size := by simp [World.setCell]
 have ap : ∀ {A : Option Addr} {m : Nat}, Ke w ob Ao A m → 0 < m → ∀ b off, A = some ⟨b, off, none⟩ → some b ≠ (Value.slice Ao mo cx).ownBlock := fun {A m} hk hm b off e e2 => by
  obtain ⟨o2, h5⟩ := ra Ao mo cx b e2 fA;exact (hk hm b off e).2.2 o2 h5
 have sl : ∀ {A : Option Addr} {m d size : Nat} {xs : List Value}, Ke w ob Ao A m → Sl wr wr.heap.size size A m d xs → Sl (wr'.setCell ⟨ob, 0, none⟩ (.slice A' (mo + 1) cx')) (wr'.setCell ⟨ob, 0, none⟩ (.slice A' (mo + 1) cx')).heap.size size A m d xs := fun {A m d size xs} hk hs => by
  rw [← hsz];have h1 := hs.kept hG.g (ap hk);refine ⟨h1.1, h1.2.1, h1.2.2.1, h1.2.2.2.1, fun hn => ?_⟩;obtain ⟨b, off, e, hb, hc⟩ := h1.2.2.2.2 hn;exact ⟨b, off, e, hb, fun j v hv => (World.cell?_setCell_far wr' ⟨ob, 0, none⟩ ⟨b, off + j, none⟩ _ (fun e2 => (hk hn b off e).2.1 e2.symm)).trans (hc j v hv)⟩
 refine ⟨⟨sl hk.k1 hk.a.h, sl hk.k2 hk.a.s, sl hk.kl hk.a.l, sl hk.kp hk.a.p⟩, hk.k1.grow hk.a.h hG fA' fA, hk.k2.grow hk.a.s hG fA' fA, hk.kl.grow hk.a.l hG fA' fA, hk.kp.grow hk.a.p hG fA' fA, (hk.bx.grown hG.g (fun e => ?_)).far (by show x ≠ ob; have := hk.hx.1; omega) _, hk.hx.1, fun o' e => ?_⟩
 ·obtain ⟨o2, h5⟩ := ra Ao mo cx x e fA;exact hk.hx.2 o2 h5
 ·rcases fA' with rfl | ⟨g, rfl⟩
  ·cases e
  injection e with e; injection e with e _; subst e;rcases hG.at' with h4 | h4
  ·obtain ⟨o2, h5⟩ := ra Ao mo cx g (by rw [← h4]; rfl) fA;exact hk.hx.2 o2 h5
  ·simp [Value.ownBlock] at h4; have := hk.bx.lt; omega
theorem SK.later (hk : SK w ob x co Ao A1 A2 B3 B4 n1 c1 n2 c2 m3 e3 m4 e4 so wr) (hb : bW wr wr') : SK w ob x co Ao A1 A2 B3 B4 n1 c1 n2 c2 m3 e3 m4 e4 so wr' :=
 ⟨hk.a.later hb, hk.k1, hk.k2, hk.kl, hk.kp, hk.bx.below hb hk.bx.lt, hk.hx⟩
theorem RM.put (h : RM w ob An Ad A5 nn cn nd cd n5 c5 co pg As Al Ap Ao n c nl cl np cp mo cx t out wr) (hk : SK w ob x co Ao A1 A2 B3 B4 n1 c1 n2 c2 m3 e3 m4 e4 so wr) :
 RM w ob An Ad A5 nn cn nd cd n5 c5 co pg A2 B3 B4 Ao n2 c2 m3 e3 m4 e4 mo cx so.t out ((((wr.setCell ⟨w.heap.size + 1, 0, none⟩ (.slice A2 n2 c2)).setCell ⟨w.heap.size + 2, 0, none⟩ (.int .i64 co)).setCell ⟨w.heap.size + 2, 1, none⟩ (.slice B3 m3 e3)).setCell ⟨w.heap.size + 2, 2, none⟩ (.slice B4 m4 e4)) := by
 have hw := h.hob;have bk : ∀ {g : Nat} {T : TypeId} {cs : Array Value}, g ≠ w.heap.size + 1 → g ≠ w.heap.size + 2 → AJ wr g T cs → AJ ((((wr.setCell ⟨w.heap.size + 1, 0, none⟩ (.slice A2 n2 c2)).setCell ⟨w.heap.size + 2, 0, none⟩ (.int .i64 co)).setCell ⟨w.heap.size + 2, 1, none⟩ (.slice B3 m3 e3)).setCell ⟨w.heap.size + 2, 2, none⟩ (.slice B4 m4 e4)) g T cs := fun {g T cs} h1 h2 hb => mK (hb.far (by show g ≠ w.heap.size + 1; exact h1) _) h2
 have hsz : ((((wr.setCell ⟨w.heap.size + 1, 0, none⟩ (.slice A2 n2 c2)).setCell ⟨w.heap.size + 2, 0, none⟩ (.int .i64 co)).setCell ⟨w.heap.size + 2, 1, none⟩ (.slice B3 m3 e3)).setCell ⟨w.heap.size + 2, 2, none⟩ (.slice B4 m4 e4)).heap.size = wr.heap.size := by simp [World.setCell]
 have sl : ∀ {A : Option Addr} {m d size : Nat} {xs : List Value}, Ke w ob Ao A m → Sl wr wr.heap.size size A m d xs → Sl ((((wr.setCell ⟨w.heap.size + 1, 0, none⟩ (.slice A2 n2 c2)).setCell ⟨w.heap.size + 2, 0, none⟩ (.int .i64 co)).setCell ⟨w.heap.size + 2, 1, none⟩ (.slice B3 m3 e3)).setCell ⟨w.heap.size + 2, 2, none⟩ (.slice B4 m4 e4)) ((((wr.setCell ⟨w.heap.size + 1, 0, none⟩ (.slice A2 n2 c2)).setCell ⟨w.heap.size + 2, 0, none⟩ (.int .i64 co)).setCell ⟨w.heap.size + 2, 1, none⟩ (.slice B3 m3 e3)).setCell ⟨w.heap.size + 2, 2, none⟩ (.slice B4 m4 e4)).heap.size size A m d xs := fun {A m d size xs} hk hs => by
  rw [hsz];rcases Nat.eq_zero_or_pos m with hm | hm
  ·exact ⟨hs.1, hs.2.1, hs.2.2.1, hs.2.2.2.1, fun h => absurd h (by omega)⟩
  ·have e1 : ∀ b off, A = some ⟨b, off, none⟩ → b ≠ w.heap.size + 1 := fun b off e => by have := (hk hm b off e).1; omega
   have e2 : ∀ b off, A = some ⟨b, off, none⟩ → b ≠ w.heap.size + 2 := fun b off e => by have := (hk hm b off e).1; omega
   exact ((((hs.ne e1).ne e2).ne e2).ne e2)
 refine ⟨bk (by omega) (by omega) h.b0, (mK (h.b1.set 0 _) (by omega)), ?_, bk (by omega) (by omega) h.b3, bk (by omega) (by omega) h.b4, bk (by omega) (by omega) h.b5, bk (by omega) (by omega) h.bo, sl hk.k2 hk.a.s, sl hk.kl hk.a.l, sl hk.kp hk.a.p, ?_, hk.k2, hk.kl, hk.kp, ?_, h.hob⟩
 ·exact ((((h.b2.far (by simp) _).set 0 _).set 1 _).set 2 _)
 ·have f : ∀ {y i : Nat} {u : Value} {W : World}, y ≤ ob → W.ownsRow (ob + 1) 53 2 (.slice Ao mo cx) mo (out.flatMap Fn.cells) → (W.setCell ⟨y, i, none⟩ u).ownsRow (ob + 1) 53 2 (.slice Ao mo cx) mo (out.flatMap Fn.cells) := fun {y i u W} hy hh => vh hh (by omega)
  exact f (by omega) (f (by omega) (f (by omega) (f (by omega) h.o)))
 ·exact (((h.bl.setCell (by simp) _).setCell (by simp) _).setCell (by simp) _).setCell (by simp) _
end
theorem fZ : xC prog 45 53 2 16 := xC.mk' (z := .agg #[.int .i64 0, .int .i64 0]) underlying45 (by kernel_rfl) rfl (by decide)
open Go.RowKit
def Bu (B ob : Nat) (Ao A : Option Addr) (n : Nat) : Prop := 0 < n → ∀ b off, A = some ⟨b, off, none⟩ → B ≤ b ∧ b ≠ ob ∧ ∀ o', Ao ≠ some ⟨b, o', none⟩
structure CM (w : World) (bb : Nat) (L : List (TypeId × Array Value)) (co : Int) (As Al Ap Ao : Option Addr) (n c nl cl np cp mo cx : Nat) (t : Sm) (out : List Fn) (fl : Bool) (wr : World) : Prop where
 x : Bw w L wr
 b : AJ wr bb 96 #[.slice As n c, .int .i64 co, .slice Al nl cl, .slice Ap np cp, .bool fl]
 s : BI wr 1 As n c (zE t.s)
 l : BI wr 3 Al nl cl (t.ls.flatMap Lk.cells)
 p : BI wr 1 Ap np cp (zE t.pr)
 o : wr.ownsRow (bb + 1) 53 2 (.slice Ao mo cx) mo (out.flatMap Fn.cells)
 ks : Bu (w.heap.size + 4) bb Ao As n
 kl : Bu (w.heap.size + 4) bb Ao Al nl
 kp : Bu (w.heap.size + 4) bb Ao Ap np
 hb : w.heap.size + 4 ≤ bb
 hL : L.length = 4
structure CK (w : World) (bb x : Nat) (co : Int) (Ao A1 A2 Al Ap : Option Addr) (n1 c1 n2 c2 nl cl np cp : Nat) (h : List Int) (t : Sm) (ov : Bool) (wr : World) : Prop where
 a : xF wr A1 A2 Al Ap n1 c1 n2 c2 nl cl np cp ⟨h, t, true⟩
 k1 : Bu (w.heap.size + 4) bb Ao A1 n1
 k2 : Bu (w.heap.size + 4) bb Ao A2 n2
 kl : Bu (w.heap.size + 4) bb Ao Al nl
 kp : Bu (w.heap.size + 4) bb Ao Ap np
 bx : AJ wr x 96 #[.slice A2 n2 c2, .int .i64 co, .slice Al nl cl, .slice Ap np cp, .bool ov]
 hx : bb < x ∧ ∀ o', Ao ≠ some ⟨x, o', none⟩
section
variable {w wr wr' : World} {bb x B0 : Nat} {L : List (TypeId × Array Value)} {As Al Ap Ao A1 A2 B3 B4 A A' : Option Addr} {n c nl cl np cp mo cx n1 c1 n2 c2 m3 e3 m4 e4 m d size cx' : Nat} {co : Int} {t t' : Sm} {out : List Fn} {h : List Int} {ov fl : Bool} {f : Fn} {xs : List Value}
theorem CM.later (k : CM w bb L co As Al Ap Ao n c nl cl np cp mo cx t out fl wr) (hb : bW wr wr') : CM w bb L co As Al Ap Ao n c nl cl np cp mo cx t out fl wr' :=
 ⟨k.x.later hb, k.b.below hb k.b.lt, (k.s.below hb lR).more hb.size, (k.l.below hb lR).more hb.size, (k.p.below hb lR).more hb.size, zI k.o hb, k.ks, k.kl, k.kp, k.hb, k.hL⟩
theorem CK.later (k : CK w bb x co Ao A1 A2 B3 B4 n1 c1 n2 c2 m3 e3 m4 e4 h t ov wr) (hb : bW wr wr') : CK w bb x co Ao A1 A2 B3 B4 n1 c1 n2 c2 m3 e3 m4 e4 h t ov wr' :=
 ⟨k.a.later hb, k.k1, k.k2, k.kl, k.kp, k.bx.below hb k.bx.lt, k.hx⟩
theorem Bu.fre {B : Nat} (h : Bu B0 bb Ao A n) (hf : Ji B A A' n m) (hB : bb < B) (hw : B0 ≤ B) (ho : ∀ b o', Ao = some ⟨b, o', none⟩ → b < B) : Bu B0 bb Ao A' m := by
 intro hm b off e;rcases hf with ⟨hf, hn⟩ | hf
 ·subst hf; exact h (by omega) b off e
 ·have := hf b off e;refine ⟨by omega, by omega, fun o' e2 => ?_⟩;have := ho b o' e2; omega
theorem Bu.nil (n : Nat) : Bu B0 bb Ao none n := fun _ b off e => by cases e
theorem Bu.own {e : TypeId} {base : Nat} (h : wr.ownsRow base e size (.slice A m d) m xs) (hB : B0 ≤ base) (hn : ∀ b off, A = some ⟨b, off, none⟩ → b ≠ bb) : Bu B0 bb Option.none A n := fun _ b off e => ⟨Nat.le_trans hB (yj h b off e), hn b off e, fun o' e2 => by cases e2⟩
theorem rZ (o : wr.ownsRow (bb + 1) 53 2 (.slice Ao mo cx) mo xs) : (∀ b o', Ao = some ⟨b, o', none⟩ → b < wr.heap.size) := fun b o' e => by
 rcases yk o with h | ⟨g, h, h1, h2⟩
 ·rw [h] at e; cases e
 ·rw [h] at e; injection e with e; injection e with e _; omega
theorem Bu.grow (h : Bu B0 bb Ao A m) (hs : BI wr size A m d xs) (FR : (Value.slice A' (mo + 1) cx').ownBlock = (Value.slice Ao mo cx).ownBlock ∨ (Value.slice A' (mo + 1) cx').ownBlock = some wr.heap.size) (hA' : A' = none ∨ ∃ g, A' = some ⟨g, 0, none⟩) (hA : Ao = none ∨ ∃ g, Ao = some ⟨g, 0, none⟩) : Bu B0 bb A' A m := by
 intro hm b off e;obtain ⟨h1, h2, h3⟩ := h hm b off e;refine ⟨h1, h2, fun o' e2 => ?_⟩;obtain ⟨b', off', e3, hb, -⟩ := hs.2.2.2.2 hm;rw [e] at e3; injection e3 with e3; injection e3 with e3 _; subst e3
 rcases hA' with rfl | ⟨g, rfl⟩
 ·cases e2
 injection e2 with e2; injection e2 with e2 _; subst e2;rcases FR with h4 | h4
 ·obtain ⟨o2, h5⟩ := ra Ao mo cx g (by rw [← h4]; rfl) hA;exact h3 o2 h5
 ·simp [Value.ownBlock] at h4; omega
theorem xl (hk : Bu B0 bb Ao A m) (hs : BI wr size A m d xs) (hg : wr.grownBy wr' (Value.slice Ao mo cx).ownBlock) (fA : Ao = none ∨ ∃ g, Ao = some ⟨g, 0, none⟩) : BI wr' size A m d xs :=
 hs.kept hg fun hm b off e e2 => by
  obtain ⟨o2, h5⟩ := ra Ao mo cx b e2 fA;exact (hk hm b off e).2.2 o2 h5
theorem CM.app (k : CM w bb L co As Al Ap Ao n c nl cl np cp mo cx t out fl wr) (hg : wr.grownBy wr' (Value.slice Ao mo cx).ownBlock) (FR : (Value.slice A' (mo + 1) cx').ownBlock = (Value.slice Ao mo cx).ownBlock ∨ (Value.slice A' (mo + 1) cx').ownBlock = some wr.heap.size) (hr : wr'.ownsRow (bb + 1) 53 2 (.slice A' (mo + 1) cx') (mo + 1) (out.flatMap Fn.cells ++ f.cells)) :
 CM w bb L co As Al Ap A' n c nl cl np cp (mo + 1) cx' t (out ++ [f]) fl wr' := by
 have fA : Ao = none ∨ ∃ g, Ao = some ⟨g, 0, none⟩ := (yk k.o).imp id fun ⟨g, e, _⟩ => ⟨g, e⟩
 have fA' : A' = none ∨ ∃ g, A' = some ⟨g, 0, none⟩ := (yk hr).imp id fun ⟨g, e, _⟩ => ⟨g, e⟩
 have nb : ∀ {g : Nat}, g ≤ bb → some g ≠ (Value.slice Ao mo cx).ownBlock := fun {g} hg e => by have := (k.o.lt g e.symm).1; omega
 have hw := k.hb;refine ⟨⟨fun i T cs hi => (k.x.b i T cs hi).grown hg (nb (by have := (List.getElem?_eq_some_iff.1 hi).1; have := k.hL; omega)), ?_⟩, k.b.grown hg (nb lR), xl k.ks k.s hg fA, xl k.kl k.l hg fA, xl k.kp k.p hg fA, ?_, k.ks.grow k.s FR fA' fA, k.kl.grow k.l FR fA' fA, k.kp.grow k.p FR fA' fA, k.hb, k.hL⟩
 ·exact ⟨hg.os.trans k.x.l.os, hg.tape.trans k.x.l.tape, hg.output.trans k.x.l.output, Nat.le_trans k.x.l.size hg.size, fun i hi => (hg.block i (Nat.lt_of_lt_of_le hi k.x.l.size) (nb (by omega))).trans (k.x.l.block i hi)⟩
 ·rw [List.flatMap_append, List.flatMap_cons, List.flatMap_nil, List.append_nil]; exact hr
theorem CK.app (o : wr.ownsRow (bb + 1) 53 2 (.slice Ao mo cx) mo xs) (k : CK w bb x co Ao A1 A2 B3 B4 n1 c1 n2 c2 m3 e3 m4 e4 h t ov wr) (hg : wr.grownBy wr' (Value.slice Ao mo cx).ownBlock) (FR : (Value.slice A' (mo + 1) cx').ownBlock = (Value.slice Ao mo cx).ownBlock ∨ (Value.slice A' (mo + 1) cx').ownBlock = some wr.heap.size) (hA' : A' = none ∨ ∃ g, A' = some ⟨g, 0, none⟩) :
 CK w bb x co A' A1 A2 B3 B4 n1 c1 n2 c2 m3 e3 m4 e4 h t ov wr' := by
 have fA : Ao = none ∨ ∃ g, Ao = some ⟨g, 0, none⟩ := (yk o).imp id fun ⟨g, e, _⟩ => ⟨g, e⟩
 refine ⟨⟨xl k.k1 k.a.h hg fA, xl k.k2 k.a.s hg fA, xl k.kl k.a.l hg fA, xl k.kp k.a.p hg fA⟩, k.k1.grow k.a.h FR hA' fA, k.k2.grow k.a.s FR hA' fA, k.kl.grow k.a.l FR hA' fA, k.kp.grow k.a.p FR hA' fA, k.bx.grown hg (fun e => ?_), k.hx.1, fun o' e => ?_⟩
 ·obtain ⟨o2, h5⟩ := ra Ao mo cx x e fA;exact k.hx.2 o2 h5
 ·rcases hA' with rfl | ⟨g, rfl⟩
  ·cases e
  injection e with e; injection e with e _; subst e;rcases FR with h4 | h4
  ·obtain ⟨o2, h5⟩ := ra Ao mo cx g (by rw [← h4]; rfl) fA;exact k.hx.2 o2 h5
  ·simp [Value.ownBlock] at h4; have := k.bx.lt; omega
theorem CM.put (k : CM w bb L co As Al Ap Ao n c nl cl np cp mo cx t out fl wr) (q : CK w bb x co Ao A1 A2 B3 B4 n1 c1 n2 c2 m3 e3 m4 e4 h t' ov wr) :
 CM w bb L co A2 B3 B4 Ao n2 c2 m3 e3 m4 e4 mo cx t' out ov (st5 wr bb (.slice A2 n2 c2) (.int .i64 co) (.slice B3 m3 e3) (.slice B4 m4 e4) (.bool ov)) := by
 have hw := k.hb;have of : ∀ {A : Option Addr} {m : Nat}, Bu (w.heap.size + 4) bb Ao A m → 0 < m → ∀ b off, A = some ⟨b, off, none⟩ → b ≠ bb := fun hk hm b off e => (hk hm b off e).2.1
 have hL := k.hL;refine ⟨((((k.x.put (by omega) 0 _).put (by omega) 1 _).put (by omega) 2 _).put (by omega) 3 _).put (by omega) 4 _, ((((k.b.set 0 _).set 1 _).set 2 _).set 3 _).set 4 _, tN q.a.s (of q.k2), tN q.a.l (of q.kl), tN q.a.p (of q.kp), ?_, q.k2, q.kl, q.kp, k.hb, k.hL⟩;have f : ∀ {i : Nat} {u : Value} {W : World}, W.ownsRow (bb + 1) 53 2 (.slice Ao mo cx) mo (out.flatMap Fn.cells) → (W.setCell ⟨bb, i, none⟩ u).ownsRow (bb + 1) 53 2 (.slice Ao mo cx) mo (out.flatMap Fn.cells) := fun hh => vh hh (by omega)
 exact f (f (f (f (f k.o))))
theorem CM.mem {An Ad : Option Addr} {nn cn nd cd : Nat} {ns : List Nd} {ds : List Dv} {m0 : List Int} {AB : List Lk} {AA : List Int} {A0 A5 A6 : Option Addr} {k0 d0 k1 d1 k2 d2 : Nat} (k : CM w bb L co As Al Ap Ao n c nl cl np cp mo cx t out fl wr) (hh : yc w An Ad A0 A5 A6 nn cn nd cd k0 d0 k1 d1 k2 d2 ns ds m0 AB AA) : yc wr An Ad As Al Ap nn cn nd cd n c nl cl np cp ns ds t.s t.ls t.pr :=
 ⟨(hh.below k.x.l).hn, (hh.below k.x.l).hd, k.s, k.l, k.p, (hh.below k.x.l).la, hh.sn, hh.sd⟩
end
theorem mI (ns : List Nd) (ds : List Dv) (co : Int) (t : Sm) (x : Sp) : (zn ns ds co t x).h.length ≤ 8 := by
 have hu : ∀ a b : Int, (su a b).length ≤ 1 := fun a b => by unfold su; split <;> simp
 unfold zn;split
 ·have := iY ns ds t.s x.dev x.kind co t.ls t.pr; dsimp only; omega
 split
 ·split <;> simp
 split
 ·split <;> simp
 split
 ·simp
 split
 ·have := hu (t.s.getD x.dev.toNat 0) x.pos; dsimp only; omega
 split
 ·have := hu (t.s.getD x.dev.toNat 0) x.pos; dsimp only; omega
 ·have := hu (t.s.getD x.dev.toNat 0) x.pos; dsimp only; rw [List.length_cons]; omega
structure Br (w : World) (nt st gr pg sk : Array Value) (wr : World) : Prop where
 b0 : AJ wr w.heap.size 30 nt
 b1 : AJ wr (w.heap.size + 1) 22 st
 b2 : AJ wr (w.heap.size + 2) 37 gr
 b3 : AJ wr (w.heap.size + 3) 41 pg
 b4 : AJ wr (w.heap.size + 4) 22 sk
 b5 : AJ wr (w.heap.size + 5) 37 #[.int .i64 0, .slice none 0 0, .slice none 0 0]
 bl : bW w wr
theorem Br.new (w : World) (nt st gr pg sk : Array Value) : Br w nt st gr pg sk ((((((w.alloc (.cells nt 30)).alloc (.cells st 22)).alloc (.cells gr 37)).alloc (.cells pg 41)).alloc (.cells sk 22)).alloc (.cells #[.int .i64 0, .slice none 0 0, .slice none 0 0] 37)) := by
 obtain ⟨h0, h1, h2, h3, h4⟩ := eD w 30 22 37 41 nt st gr pg;have hz : ((((w.alloc (.cells nt 30)).alloc (.cells st 22)).alloc (.cells gr 37)).alloc (.cells pg 41)).heap.size = w.heap.size + 4 := by simp
 generalize World.alloc (World.alloc (World.alloc (World.alloc w _) _) _) _ = W at *;have h5 := AJ.new W 22 sk;have h6 := AJ.new (W.alloc (.cells sk 22)) 37 #[.int .i64 0, .slice none 0 0, .slice none 0 0];rw [hz] at h5;rw [World.size_alloc, hz] at h6;exact ⟨(h0.alloc _).alloc _, (h1.alloc _).alloc _, (h2.alloc _).alloc _, (h3.alloc _).alloc _, h5.alloc _, h6, (h4.alloc (by omega) _).alloc (by simp; omega) _⟩
theorem Br.later {w wr wr' : World} {nt st gr pg sk : Array Value} (h : Br w nt st gr pg sk wr) (hb : bW wr wr') : Br w nt st gr pg sk wr' := ⟨h.b0.below hb h.b0.lt, h.b1.below hb h.b1.lt, h.b2.below hb h.b2.lt, h.b3.below hb h.b3.lt, h.b4.below hb h.b4.lt, h.b5.below hb h.b5.lt, h.bl.trans (hb.mono h.bl.size)⟩
structure rD (w : World) (A1 A2 Al Ap : Option Addr) (n1 c1 n2 c2 nl cl np cp : Nat) (out : List Fn) (t : Sm) : Prop where
 o : BI w 2 A1 n1 c1 (out.flatMap Fn.cells)
 s : BI w 1 A2 n2 c2 (zE t.s)
 l : BI w 3 Al nl cl (t.ls.flatMap Lk.cells)
 p : BI w 1 Ap np cp (zE t.pr)
end Go.Proofs.YtkkobemhbicjgaaGreatDoor
