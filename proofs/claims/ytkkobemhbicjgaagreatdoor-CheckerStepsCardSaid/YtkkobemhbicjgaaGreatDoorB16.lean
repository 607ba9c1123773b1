import Derived.Test.YtkkobemhbicjgaaGreatDoorB12
import Derived.Test.YtkkobemhbicjgaaGreatDoorB00
set_option maxRecDepth 100000
set_option maxHeartbeats 8000000
namespace Go.Proofs.YtkkobemhbicjgaaGreatDoor
open Go.RowKit Tryz
def dw (w : World) (g : Nat) (AY : Int) (i : Nat) (wr : World) : Prop := ∃ (An : Option Addr) (cn : Nat) (ns : List Nd), yF w g AY An i cn ns none 0 0 [] wr ∧ ns.length = i ∧ pe ns
def dA (w : World) (g : Nat) (AY : Int) (k : Nat) (iv : Value) (wr : World) : Prop := ∃ i : Nat, iv = .int .i64 i ∧ i ≤ k ∧ Hid (dw w g AY i wr)
def gN (w : World) (g : Nat) (AY : Int) (An : Option Addr) (k cn : Nat) (ns : List Nd) (lo hi : Nat) (iv : Value) (wr : World) : Prop := ∃ i : Nat, iv = .int .i64 i ∧ lo ≤ i ∧ i ≤ hi ∧ Hid (qQ 1 w g AY An k cn ns wr)
theorem yF.nb_rown {w0 W W' : World} {g : Nat} {AY : Int} {An Ad : Option Addr} {nn cn nd cd : Nat} {ns : List Nd} {ds : List Dv} (h : yF w0 g AY An nn cn ns Ad nd cd ds W) (hg : W.grownBy W' (Value.slice An nn cn).ownBlock) : AJ W' (w0.heap.size + 3) 30 #[.slice An nn cn, .slice Ad nd cd] := h.nb.grown hg (fun e => by have := (h.rn.lt _ e.symm).1; omega)
theorem rF (i : Nat) (c p : Int) (hc : 0 ≤ c ∧ c ≤ 50) (hp : 0 ≤ p ∧ p ≤ 2) : eL i ⟨Ea (Dm (BA ⟨#[78]⟩) i), c, p⟩ := ⟨rfl, hc.1, hc.2, hp.1, hp.2⟩
theorem sK {kind a b : Int} {k : Nat} (hk : 1 ≤ kind ∧ kind ≤ 3) (ha : 0 ≤ a ∧ a < k) (hb : 0 ≤ b ∧ b < k) (Oy : b ≠ a) : xX kind a b k = true := by
 have hj : zV kind = true := by simp [zV]; omega
 simp only [xX, hj];rw [if_neg (by omega), if_neg (by omega), if_neg (by simp)];simp; omega
theorem uU {kind a : Int} {k : Nat} (hk : 4 ≤ kind ∧ kind ≤ 6) (ha : 0 ≤ a ∧ a < k) : xX kind a (-1) k = true := by
 have hj : zV kind = false := by simp [zV]; omega
 simp only [xX, hj];rw [if_neg (by omega), if_neg (by omega), if_pos (by simp)];simp
theorem fo {a r k : Int} (ha : 0 ≤ a ∧ a < k) (hr : 0 ≤ r ∧ r < k - 1) : 0 ≤ (a + 1 + r) % k ∧ (a + 1 + r) % k < k ∧ (a + 1 + r) % k ≠ a := by
 rcases Int.lt_or_le (a + 1 + r) k with h | h
 ·rw [Int.emod_eq_of_lt (by omega) h]; omega
 ·have : (a + 1 + r) % k = a + 1 + r - k := by
   rw [← Int.sub_emod_right, Int.emod_eq_of_lt (by omega) (by omega)]
  omega
theorem jI (g : Nat) (nodes AY : Int) (w : World) (hd : zN w g) (hn : 3 ≤ nodes ∧ nodes ≤ 90) (hm : 1 ≤ AY ∧ AY ≤ 90) : Calls prog 13 #[.pointer (some ⟨g, 0, none⟩), .int .i64 nodes, .int .i64 AY] w (kX w g nodes AY) := by
 have hlt := hd.lt;have HD := iD hd; clear hd;have TR : 3 ≤ nodes := hn.1;have QB : nodes ≤ 90 := hn.2;have QF : 1 ≤ AY := hm.1;have Aa : AY ≤ 90 := hm.2;clear hn
 go_enter func13, ntmps13
 go_wp2_with fail
 have MI : Hid (yF w g AY none 0 0 [] none 0 0 [] ((((w.alloc (.cells #[.pointer (some ⟨g, 0, none⟩)] 25)).alloc (.cells #[.int .i64 AY] 3)).alloc (.cells #[.slice none 0 0, .slice none 0 0] 30)).alloc (.cells #[.slice none 0 0, .slice none 0 0] 30))) := by
  refine ⟨hlt, (((HD.alloc _).alloc _).alloc _).alloc _, ?_, (((AJ.new w _ _).alloc _).alloc _).alloc _, ?_, ?_, ?_, World.ownsRow_nil _ _ _ _, World.ownsRow_nil _ _ _ _, .inl rfl⟩
  ·exact zH (((((Below.refl _ _).alloc lR _).alloc (by simp) _).alloc (by simp; omega) _).alloc (by simp; omega) _) _
  ·have := AJ.new (w.alloc (.cells #[.pointer (some ⟨g, 0, none⟩)] 25)) 3 #[.int .i64 AY];rw [World.size_alloc] at this;exact (this.alloc _).alloc _
  ·have := AJ.new ((w.alloc (.cells #[.pointer (some ⟨g, 0, none⟩)] 25)).alloc (.cells #[.int .i64 AY] 3)) 30 #[.slice none 0 0, .slice none 0 0];simp only [World.size_alloc] at this;exact this.alloc _
  ·have := AJ.new (((w.alloc (.cells #[.pointer (some ⟨g, 0, none⟩)] 25)).alloc (.cells #[.int .i64 AY] 3)).alloc (.cells #[.slice none 0 0, .slice none 0 0] 30)) 30 #[.slice none 0 0, .slice none 0 0];simp only [World.size_alloc] at this;exact this
 rw [show w.heap.size + 1 + 1 + 1 = w.heap.size + 3 from rfl, show w.heap.size + 1 + 1 = w.heap.size + 2 from rfl];generalize World.alloc (World.alloc (World.alloc (World.alloc _ _) _) _) _ = wa at *;refine (zT g (nodes - 1) wa MI.deck (by omega)).mono ?_;rintro e w1 ⟨r, rfl, AE, KL, Uo, Gy, DD, Jn⟩;have TM : r < nodes - 1 := Uo (by omega);have BO := iD (MI.next Gy DD);clear KL Uo Gy DD Jn MI HD wa;obtain ⟨q, rfl⟩ := Int.eq_ofNat_of_zero_le AE
 go_wp2_with fail
 rw [show (2 : Int) + (q : Int) = ((q + 2 : Nat) : Int) by omega];obtain ⟨k, hk⟩ := eX (q + 2);rw [← hk];have AU : 2 ≤ k := by omega
 have Gx : (k : Int) ≤ nodes := by omega
 have AP : k ≤ 90 := by omega
 clear hk AE TM
 go_loopw [9] (dA w g AY k) (fun iv _ => k - (intOf iv).toNat)
 case atStart => exact ⟨0, rfl, Nat.zero_le _, none, 0, [], BO, rfl, fun i x h => by simp at h⟩
 case round =>
  clear BO w1;obtain ⟨i, rfl, hi, Bq⟩ := hrel;obtain ⟨An, cn, ns, hst, Da, AH⟩ := Bq.out;have BG := iD hst; have Cb := iD Da; have Dq := iD AH;clear hst Da AH Bq;have hsz := BG.size;by_cases LH : i < k
  ·go_wp2_with fail
   refine (wu ⟨#[78]⟩ i wr (by decide) (by omega)).mono ?_;rintro e wa ⟨rfl, Nt⟩;have Ry := iD (BG.later Nt);have AL := Nt.size;clear Nt;go_upto_region 7 with (fail);obtain ⟨b9, Gz⟩ := eX wa.heap.size;have AQ := iD (AJ.new wa 85 #[.string (Ea (Dm (BA ⟨#[78]⟩) i)), .int .i64 0, .int .i64 0]);have BF := iD (Ry.alloc (.cells #[.string (Ea (Dm (BA ⟨#[78]⟩) i)), .int .i64 0, .int .i64 0] 85));have WM : Hid (∀ q, (Value.slice An i cn).ownBlock = some q → q ≠ b9) := fun q e => by have := (Ry.rn.lt q e).2; omega
   have Wh : Hid (∀ q, (Value.slice none 0 0).ownBlock = some q → q ≠ b9) := fun q e => by cases e
   have Be : w.heap.size + 4 ≤ b9 := by omega
   generalize World.alloc _ _ = w1 at *;rw [← Gz] at AQ ⊢;clear Gz AL Ry;have kp := BF.pb.c0
   go_wp2_with fail
   clear kp;refine (wK g 2 w1 BF.deck (by decide)).mono ?_;rintro e w2 ⟨r, rfl, BB, Av, Bc⟩;have EM := iD (BF.next BB Av);have Ai := iD (AQ.grown Av (fun e => by injection e with e; omega));clear BB Av Bc BF AQ;rcases r with _ | _
   ·skip
    have kp := EM.pb.c0
    go_wp2_with fail
    clear kp;refine (wK g 8 w2 EM.deck (by decide)).mono ?_;rintro e w5 ⟨r, rfl, BB, Av, Bc⟩;have EL := iD (EM.next BB Av);have Cf := iD (Ai.grown Av (fun e => by injection e with e; omega));clear BB Av Bc;rcases r with _ | _
    ·skip
     have kd := EL.nb.c0;obtain ⟨e0, e1, e2⟩ := Cf.d3;have IM := EL.size
     go_wp2_with (at_builtin; go_must (refine zM rfl (.tmp 45) (.tmp 47) rfl rJ (by rfl) (EL.rn.alloc _) (by rfl) (Sl.newest (n := 1) (by rfl) (by rfl) (by decide)) (by simp [Value.oneCell']) (by omega) (by omega) (by simp; omega) ?_; intro A' cap' w8 EE Eo Gd; have CF := (EL.alloc _).nb_rown Eo; have OE := iD ((EL.alloc _).node (x := ⟨Ea (Dm (BA ⟨#[78]⟩) i), 0, 0⟩) EE Eo Gd); have kn : w8.cell? ⟨w.heap.size + 3, 0, none⟩ = some (.slice An i cn) := CF.cell 0; have fn := CF.frozen 0; clear EE Eo Gd CF))
     go_roundw
     case rel => exact ⟨i + 1, by go_num, by omega, A', cap', _, OE, by simp [Cb.out], Dq.snoc (by rw [Cb.out]; exact rF _ _ _ ⟨by omega, by omega⟩ ⟨by omega, by omega⟩)⟩
     case measure => simp [intOf]; omega
    ·have kp := EL.pb.c0
     go_wp2_with fail
     clear kp;refine (zT g 2 w5 EL.deck (by decide)).mono ?_;rintro e w6 ⟨z, rfl, OQ, ER, GJ, BB, Av, Bc⟩;have JN : z < 2 := GJ (by decide);have Rz := iD (EL.next BB Av);have DZ := iD (Cf.grown Av (fun e => by injection e with e; omega));clear ER GJ BB Av Bc;have c4 := DZ.c2;have f4 := DZ.frozen 2;have Gn := iD (Rz.store (u := .int .i64 (1 + z)) (j := 2) Be WM Wh);have Df := iD (DZ.set 2 (.int .i64 (1 + z)));go_upto_region 11 with (fail);clear c4 f4;generalize World.setCell _ _ _ = w7 at *;have kd := Gn.nb.c0;obtain ⟨e0, e1, e2⟩ := Df.d3;have IM := Gn.size
     go_wp2_with (at_builtin; go_must (refine zM rfl (.tmp 45) (.tmp 47) rfl rJ (by rfl) (Gn.rn.alloc _) (by rfl) (Sl.newest (n := 1) (by rfl) (by rfl) (by decide)) (by simp [Value.oneCell']) (by omega) (by omega) (by simp; omega) ?_; intro A' cap' w8 EE Eo Gd; have CF := (Gn.alloc _).nb_rown Eo; have OE := iD ((Gn.alloc _).node (x := ⟨Ea (Dm (BA ⟨#[78]⟩) i), 0, (1 + z)⟩) EE Eo Gd); have kn : w8.cell? ⟨w.heap.size + 3, 0, none⟩ = some (.slice An i cn) := CF.cell 0; have fn := CF.frozen 0; clear EE Eo Gd CF))
     go_roundw
     case rel => exact ⟨i + 1, by go_num, by omega, A', cap', _, OE, by simp [Cb.out], Dq.snoc (by rw [Cb.out]; exact rF _ _ _ ⟨by omega, by omega⟩ ⟨by omega, by omega⟩)⟩
     case measure => simp [intOf]; omega
   ·have kp := EM.pb.c0
    go_wp2_with fail
    clear kp;refine (zT g 50 w2 EM.deck (by decide)).mono ?_;rintro e w3 ⟨y, rfl, AX, AK, AB, BB, Av, Bc⟩;have AW : y < 50 := AB (by decide);have FH := iD (EM.next BB Av);have CO := iD (Ai.grown Av (fun e => by injection e with e; omega));clear AK AB BB Av Bc;have c4 := CO.c1;have f4 := CO.frozen 1;have Jb := iD (FH.store (u := .int .i64 (1 + y)) (j := 1) Be WM Wh);have DF := iD (CO.set 1 (.int .i64 (1 + y)));go_upto_region 9 with (fail);clear c4 f4;generalize World.setCell _ _ _ = w4 at *;have kp := Jb.pb.c0
    go_wp2_with fail
    clear kp;refine (wK g 8 w4 Jb.deck (by decide)).mono ?_;rintro e w5 ⟨r, rfl, BB, Av, Bc⟩;have EL := iD (Jb.next BB Av);have Cf := iD (DF.grown Av (fun e => by injection e with e; omega));clear BB Av Bc;rcases r with _ | _
    ·skip
     have kd := EL.nb.c0;obtain ⟨e0, e1, e2⟩ := Cf.d3;have IM := EL.size
     go_wp2_with (at_builtin; go_must (refine zM rfl (.tmp 45) (.tmp 47) rfl rJ (by rfl) (EL.rn.alloc _) (by rfl) (Sl.newest (n := 1) (by rfl) (by rfl) (by decide)) (by simp [Value.oneCell']) (by omega) (by omega) (by simp; omega) ?_; intro A' cap' w8 EE Eo Gd; have CF := (EL.alloc _).nb_rown Eo; have OE := iD ((EL.alloc _).node (x := ⟨Ea (Dm (BA ⟨#[78]⟩) i), (1 + y), 0⟩) EE Eo Gd); have kn : w8.cell? ⟨w.heap.size + 3, 0, none⟩ = some (.slice An i cn) := CF.cell 0; have fn := CF.frozen 0; clear EE Eo Gd CF))
     go_roundw
     case rel => exact ⟨i + 1, by go_num, by omega, A', cap', _, OE, by simp [Cb.out], Dq.snoc (by rw [Cb.out]; exact rF _ _ _ ⟨by omega, by omega⟩ ⟨by omega, by omega⟩)⟩
     case measure => simp [intOf]; omega
    ·have kp := EL.pb.c0
     go_wp2_with fail
     clear kp;refine (zT g 2 w5 EL.deck (by decide)).mono ?_;rintro e w6 ⟨z, rfl, OQ, ER, GJ, BB, Av, Bc⟩;have JN : z < 2 := GJ (by decide);have Rz := iD (EL.next BB Av);have DZ := iD (Cf.grown Av (fun e => by injection e with e; omega));clear ER GJ BB Av Bc;have c4 := DZ.c2;have f4 := DZ.frozen 2;have Gn := iD (Rz.store (u := .int .i64 (1 + z)) (j := 2) Be WM Wh);have Df := iD (DZ.set 2 (.int .i64 (1 + z)));go_upto_region 11 with (fail);clear c4 f4;generalize World.setCell _ _ _ = w7 at *;have kd := Gn.nb.c0;obtain ⟨e0, e1, e2⟩ := Df.d3;have IM := Gn.size
     go_wp2_with (at_builtin; go_must (refine zM rfl (.tmp 45) (.tmp 47) rfl rJ (by rfl) (Gn.rn.alloc _) (by rfl) (Sl.newest (n := 1) (by rfl) (by rfl) (by decide)) (by simp [Value.oneCell']) (by omega) (by omega) (by simp; omega) ?_; intro A' cap' w8 EE Eo Gd; have CF := (Gn.alloc _).nb_rown Eo; have OE := iD ((Gn.alloc _).node (x := ⟨Ea (Dm (BA ⟨#[78]⟩) i), (1 + y), (1 + z)⟩) EE Eo Gd); have kn : w8.cell? ⟨w.heap.size + 3, 0, none⟩ = some (.slice An i cn) := CF.cell 0; have fn := CF.frozen 0; clear EE Eo Gd CF))
     go_roundw
     case rel => exact ⟨i + 1, by go_num, by omega, A', cap', _, OE, by simp [Cb.out], Dq.snoc (by rw [Cb.out]; exact rF _ _ _ ⟨by omega, by omega⟩ ⟨by omega, by omega⟩)⟩
     case measure => simp [intOf]; omega
  ·obtain rfl : i = k := by omega
   have QE : ∀ (fn : Fn) (first cap : Array Value) (w : World), (Instr.makeFunc fn first cap).run prog w = .ok (.func fn first cap) w := fun _ _ _ _ => rfl
   have JG : Hid (qQ 0 w g AY An i cn ns wr) := ⟨none, 0, 0, [], BG, by omega, Nat.le_refl _, rfl, fun j x h => by simp at h⟩;clear BG hsz LH
   go_wp2_with fail
   refine (vo 5 0 (-1) JG ⟨by omega, by omega⟩ hm (uU ⟨by omega, by omega⟩ ⟨by omega, by omega⟩)).mono ?_;rintro e w1 ⟨rfl, WZ⟩;clear QE
   go_wp2_with fail
   go_loopw [12] (gN w g AY An i cn ns 1 i) (fun iv _ => i - (intOf iv).toNat)
   case atStart => exact ⟨1, rfl, by omega, by omega, WZ⟩
   case round =>
    clear WZ JG;obtain ⟨j, rfl, Ab, RS, IB⟩ := hrel;by_cases Eh : j < i
    ·skip
     have kp := IB.pc
     go_wp2_with fail
     clear kp;refine (wK g 3 wr IB.deck (by decide)).mono ?_;rintro e wx ⟨r, rfl, BB, Av, Bc⟩;have DC := iD (IB.next BB Av);clear BB Av Bc;rcases r with _ | _
     ·skip
      have kp := DC.pc
      go_wp2_with fail
      clear kp;refine (zT g 3 wx DC.deck (by omega)).mono ?_;rintro e wy ⟨r, rfl, r0, r1, r2, BB, Av, Bc⟩;have r3 : r < 3 := r2 (by omega);have Sn := iD (DC.next BB Av);clear r1 r2 BB Av Bc
      go_wp2_with fail
      refine (vo (1 + r) ((j : Int) - 1) j Sn ⟨by omega, by omega⟩ hm (sK ⟨by omega, by omega⟩ ⟨by omega, by omega⟩ ⟨by omega, by omega⟩ (by omega))).mono ?_;rintro e wz ⟨rfl, Sk⟩
      go_wp2_with fail
      go_roundw
      case rel => exact ⟨j + 1, by go_num, by omega, by omega, Sk⟩
      case measure => simp [intOf]; omega
     ·skip
      have kp := DC.pc
      go_wp2_with fail
      clear kp;refine (zT g j wx DC.deck (by omega)).mono ?_;rintro e wt ⟨a, rfl, a0, a1, a2, BB, Av, Bc⟩;have a3 : a < j := a2 (by omega);have Sq := iD (DC.next BB Av);clear a1 a2 BB Av Bc;have kp := Sq.pc
      go_wp2_with fail
      clear kp;refine (zT g 3 wt Sq.deck (by omega)).mono ?_;rintro e wy ⟨r, rfl, r0, r1, r2, BB, Av, Bc⟩;have r3 : r < 3 := r2 (by omega);have Sn := iD (Sq.next BB Av);clear r1 r2 BB Av Bc
      go_wp2_with fail
      refine (vo (1 + r) a j Sn ⟨by omega, by omega⟩ hm (sK ⟨by omega, by omega⟩ ⟨by omega, by omega⟩ ⟨by omega, by omega⟩ (by omega))).mono ?_;rintro e wz ⟨rfl, Sk⟩
      go_wp2_with fail
      go_roundw
      case rel => exact ⟨j + 1, by go_num, by omega, by omega, Sk⟩
      case measure => simp [intOf]; omega
    ·obtain rfl : j = i := by omega
     have IV : decide (j < j) = false := by simp
     have kp := IB.pc
     go_wp2_with fail
     clear kp;refine (zT g 4 wr IB.deck (by omega)).mono ?_;rintro e wx ⟨r, rfl, r0, r1, r2, BB, Av, Bc⟩;have r3 : r < 4 := r2 (by omega);have DC := iD (IB.next BB Av);clear r1 r2 BB Av Bc;clear IV;obtain ⟨q, rfl⟩ := Int.eq_ofNat_of_zero_le r0
     go_wp2_with fail
     go_loopw [14] (gN w g AY An j cn ns 0 3) (fun iv _ => (intOf iv).toNat)
     case atStart => exact ⟨q, rfl, by omega, by omega, DC⟩
     case round =>
      clear DC IB r0 r3;obtain ⟨i, rfl, RV, AV, IB⟩ := hrel;by_cases h0 : 0 < i
      ·skip
       have kp := IB.pc
       go_wp2_with fail
       clear kp;refine (zT g 4 wr IB.deck (by omega)).mono ?_;rintro e wx ⟨r, rfl, r0, r1, r2, BB, Av, Bc⟩;have r3 : r < 4 := r2 (by omega);have DC := iD (IB.next BB Av);clear r1 r2 BB Av Bc;rcases (show r = 0 ∨ r = 1 ∨ r = 2 ∨ r = 3 by omega) with rfl | rfl | rfl | rfl
       ·skip
        have kp := DC.pc
        go_wp2_with fail
        clear kp;refine (zT g j wx DC.deck (by omega)).mono ?_;rintro e w3 ⟨a, rfl, a0, a1, a2, BB, Av, Bc⟩;have a3 : a < j := a2 (by omega);have Il := iD (DC.next BB Av);clear a1 a2 BB Av Bc;have kp := Il.pc
        go_wp2_with fail
        clear kp;refine (zT g ((j : Int) - 1) w3 Il.deck (by omega)).mono ?_;rintro e w4 ⟨c, rfl, c0, c1, c2, BB, Av, Bc⟩;have c3 : c < ((j : Int) - 1) := c2 (by omega);have Sr := iD (Il.next BB Av);clear c1 c2 BB Av Bc;have AO := fo ⟨a0, a3⟩ ⟨c0, c3⟩;have kp := Sr.pc
        go_wp2_with fail
        clear kp;refine (zT g 3 w4 Sr.deck (by omega)).mono ?_;rintro e w5 ⟨r, rfl, r0, r1, r2, BB, Av, Bc⟩;have r3 : r < 3 := r2 (by omega);have AA := iD (Sr.next BB Av);clear r1 r2 BB Av Bc
        go_wp2_with fail
        refine (vo (1 + r) a ((a + 1 + c) % j) AA ⟨by omega, by omega⟩ hm (sK ⟨by omega, by omega⟩ ⟨by omega, by omega⟩ ⟨by omega, by omega⟩ (by omega))).mono ?_;rintro e w6 ⟨rfl, Kk⟩
        go_wp2_with fail
        go_roundw
        case rel => exact ⟨i - 1, by rw [show ((i - 1 : Nat) : Int) = (i : Int) - 1 by omega], by omega, by omega, Kk⟩
        case measure => simp [intOf]; omega
       ·skip
        have kp := DC.pc
        go_wp2_with fail
        clear kp;refine (zT g j wx DC.deck (by omega)).mono ?_;rintro e w3 ⟨a, rfl, a0, a1, a2, BB, Av, Bc⟩;have a3 : a < j := a2 (by omega);have Il := iD (DC.next BB Av);clear a1 a2 BB Av Bc
        go_wp2_with fail
        refine (vo 5 a (-1) Il ⟨by omega, by omega⟩ hm (uU ⟨by omega, by omega⟩ ⟨by omega, by omega⟩)).mono ?_;rintro e w6 ⟨rfl, Kk⟩
        go_wp2_with fail
        go_roundw
        case rel => exact ⟨i - 1, by rw [show ((i - 1 : Nat) : Int) = (i : Int) - 1 by omega], by omega, by omega, Kk⟩
        case measure => simp [intOf]; omega
       ·skip
        have kp := DC.pc
        go_wp2_with fail
        clear kp;refine (zT g j wx DC.deck (by omega)).mono ?_;rintro e w3 ⟨a, rfl, a0, a1, a2, BB, Av, Bc⟩;have a3 : a < j := a2 (by omega);have Il := iD (DC.next BB Av);clear a1 a2 BB Av Bc
        go_wp2_with fail
        refine (vo 6 a (-1) Il ⟨by omega, by omega⟩ hm (uU ⟨by omega, by omega⟩ ⟨by omega, by omega⟩)).mono ?_;rintro e w6 ⟨rfl, Kk⟩
        go_wp2_with fail
        go_roundw
        case rel => exact ⟨i - 1, by rw [show ((i - 1 : Nat) : Int) = (i : Int) - 1 by omega], by omega, by omega, Kk⟩
        case measure => simp [intOf]; omega
       ·skip
        go_wp2_with fail
        go_roundw
        case rel => exact ⟨i - 1, by rw [show ((i - 1 : Nat) : Int) = (i : Int) - 1 by omega], by omega, by omega, DC⟩
        case measure => simp [intOf]; omega
      ·obtain rfl : i = 0 := by omega
       have kp := IB.pc
       go_wp2_with fail
       clear kp;refine (zT g 3 wr IB.deck (by omega)).mono ?_;rintro e wx ⟨r, rfl, r0, r1, r2, BB, Av, Bc⟩;have r3 : r < 3 := r2 (by omega);have DC := iD (IB.next BB Av);clear r1 r2 BB Av Bc;obtain ⟨q, rfl⟩ := Int.eq_ofNat_of_zero_le r0
       go_wp2_with fail
       rw [show (1 : Int) + (q : Int) = ((q + 1 : Nat) : Int) by omega];obtain ⟨m, AG⟩ := eX (q + 1);rw [← AG];have AZ : m ≤ 3 := by omega
       clear AG
       go_loopw [17] (gN w g AY An j cn ns 0 3) (fun iv _ => (intOf iv).toNat)
       case atStart => exact ⟨m, rfl, by omega, by omega, DC⟩
       case round =>
        clear DC IB r0 r3;obtain ⟨i, rfl, RV, AV, IB⟩ := hrel;by_cases h0 : 0 < i
        ·skip
         have kp := IB.pc
         go_wp2_with fail
         clear kp;refine (zT g j wr IB.deck (by omega)).mono ?_;rintro e w3 ⟨a, rfl, a0, a1, a2, BB, Av, Bc⟩;have a3 : a < j := a2 (by omega);have Il := iD (IB.next BB Av);clear a1 a2 BB Av Bc
         go_wp2_with fail
         refine (vo 4 a (-1) Il ⟨by omega, by omega⟩ hm (uU ⟨by omega, by omega⟩ ⟨by omega, by omega⟩)).mono ?_;rintro e w6 ⟨rfl, Kk⟩
         go_wp2_with fail
         go_roundw
         case rel => exact ⟨i - 1, by rw [show ((i - 1 : Nat) : Int) = (i : Int) - 1 by omega], by omega, by omega, Kk⟩
         case measure => simp [intOf]; omega
        ·obtain rfl : i = 0 := by omega
         obtain ⟨Ad, nd, cd, ds, hst, h2, h3, h4, h5⟩ := IB.out;have HE := iD (my (nodes := nodes) Ad nd cd ds hst ⟨h2, h3, h4, h5⟩ ⟨Cb, Dq⟩ ⟨AU, Gx⟩ (.slice An j cn) (.slice Ad nd cd));obtain ⟨c0, c1⟩ := hst.nb.d2;obtain ⟨d0, d1⟩ := hst.rb.d2;obtain ⟨f0, f1⟩ := hst.rb.e2;clear hst h2 h3 h4 h5 IB Cb Dq
         go_wp2_with fail
         exact bodyPost_ret (v := .agg #[.slice An j cn, .slice Ad nd cd]) (by simp [results, results13, go_sem, d0, d1]) rfl HE.out
def Dx (w : World) (g size : Nat) (A : Option Addr) (n c : Nat) (xs : List Value) : Prop := BI w size A n c xs ∧ ∀ b off, A = some ⟨b, off, none⟩ → b ≠ g
section
variable {w w' : World} {g size n c base : Nat} {A : Option Addr} {xs : List Value}
theorem Dx.grown (h : Dx w g size A n c xs) (hg : w.grownBy w' (some g)) : Dx w' g size A n c xs := by
 obtain ⟨⟨h1, h2, h3, h4, h5⟩, h6⟩ := h;refine ⟨⟨h1, h2, h3, h4, fun hn => ?_⟩, h6⟩;obtain ⟨b, off, e, hb, hc⟩ := h5 hn;refine ⟨b, off, e, Nat.lt_of_lt_of_le hb hg.size, fun j u hu => ?_⟩;exact (World.cell?_of_block (hg.block b hb (fun e' => h6 b off e (by injection e')))).trans (hc j u hu)
theorem Dx.below (h : Dx w g size A n c xs) (hb : bW w w') : Dx w' g size A n c xs := ⟨(h.1.below hb lR).more hb.size, h.2⟩
theorem Dx.alloc (h : Dx w g size A n c xs) (o : Obj) : Dx (w.alloc o) g size A n c xs := h.below ((Below.refl _ _).alloc lR _)
theorem Dx.of_own {e : TypeId} (h : w.ownsRow base e size (.slice A n c) n xs) (hb : g < base) : Dx w g size A n c xs :=
 ⟨Sl.of_own h, fun b off e => by have := (h.lt b (by rw [e]; rfl)).1; omega⟩
end
def jg (w : World) (g nd : Nat) (e : Ending) (w' : World) : Prop :=
 ∃ (A : Option Addr) (c : Nat) (s : List Int), e = .returned (.slice A nd c) ∧ Hid (zN w' g) ∧ Hid (w.grownBy w' (some g)) ∧ Hid (zL w' (w.heap.size + 1) A nd c s) ∧ Hid (∀ p ∈ s, posB p = true)
def dD (w W : World) (g nd gk : Nat) (ov iv : Value) (wr : World) : Prop :=
 ∃ (i c : Nat) (A : Option Addr) (s : List Int), ov = .slice A i c ∧ iv = .int .i64 i ∧ i ≤ nd ∧ gk = nd - i ∧ Hid (zL wr (w.heap.size + 1) A i c s) ∧ Hid (zN wr g) ∧ Hid (W.grownBy wr (some g)) ∧ Hid (∀ p ∈ s, posB p = true)
theorem nO (g : Nat) (An Ad : Option Addr) (nn cn nd cd : Nat) (ds : List Dv) (w : World) (hd : zN w g) (hx : Dx w g 5 Ad nd cd (ds.flatMap Dv.cells)) (AB : nd ≤ 1000) :
 Calls prog 22 #[.pointer (some ⟨g, 0, none⟩), .agg #[.slice An nn cn, .slice Ad nd cd]] w (jg w g nd) := by
 have hlt := hd.lt;have JG := iD (hd.alloc (.cells #[.slice An nn cn, .slice Ad nd cd] 30));have AY := iD (hx.alloc (.cells #[.slice An nn cn, .slice Ad nd cd] 30));have Hy := iD (AJ.new w 30 #[.slice An nn cn, .slice Ad nd cd]);have CB : Hid (w.grownBy (w.alloc (.cells #[.slice An nn cn, .slice Ad nd cd] 30)) (some g)) := zH ((Below.refl _ _).alloc lR _) _;have HW : Hid ((w.alloc (.cells #[.slice An nn cn, .slice Ad nd cd] 30)).heap.size = w.heap.size + 1) := by unfold Hid; simp
 clear hd hx
 go_enter func22, ntmps22
 go_wp2_with fail
 generalize World.alloc _ _ = W at *
 go_loopg [5, 6] nd (dD w W g nd)
 case atStart => exact ⟨0, 0, none, [], rfl, rfl, Nat.zero_le _, rfl, World.ownsRow_nil _ _ _ _, JG, yx _ _, fun p hp => by simp at hp⟩
 case round =>
  obtain ⟨i, c, A, s, rfl, rfl, hi, rfl, hO, hD, hG, hP⟩ := hrel;have Fp := iD (Hy.grown hG (fun e => by injection e with e; omega));have AE := iD (AY.grown hG);have k1 := Fp.c1;by_cases FZ : i < nd
  ·obtain ⟨b, off, x, rfl, hb, hx, hc⟩ := AE.1.at (fun _ => rfl) (by decide) FZ;have AP := AE.2 b off rfl;obtain ⟨nm, kd, xa, xb, co⟩ := x;have c1 : wr.cell? ⟨b, off + i * 5 + 1, none⟩ = some (.int .i64 kd) := hc 1 _ rfl;have Fu := iD c1;clear hc hx;go_upto_region 6 with (fail);clear k1 c1;have Ee : Hid (wr.cell? ⟨w.heap.size, 1, none⟩ = some (.slice (some ⟨b, off, none⟩) nd cd) ∧ wr.cell? ⟨b, off + i * 5 + 1, none⟩ = some (.int .i64 kd)) := ⟨Fp.cell 1, Fu⟩;have AU : w.heap.size < wr.heap.size := Fp.lt;refine fv (fun W' => W'.cell? ⟨w.heap.size, 1, none⟩ = some (.slice (some ⟨b, off, none⟩) nd cd) ∧ W'.cell? ⟨b, off + i * 5 + 1, none⟩ = some (.int .i64 kd)) [] ?_ fun AA => ?_
   ·exact Ee.out
   try dsimp only at AA
   refine tj 0 15 AA ?_;refine tj 1 16 AA ?_;refine tj 2 17 AA ?_;refine tj 3 18 AA ?_;refine tj 4 19 AA ?_;refine tj 5 20 AA ?_;refine tj 6 21 AA ?_;refine tj 7 22 AA ?_;refine yQ (k := 8) (by kernel_rfl) rfl (fun K hK => ?_)
   (go_simp; refine (wK g 4 wr.drew hD.drew (by decide)).mono ?_; rintro e w1 ⟨r, rfl, BB, Av, Bc⟩; have DR := iD (xn Av); go_simp)
   refine hK _ _ (fun _ => ⟨(World.cell?_of_block (DR.block w.heap.size AU (fun e => by injection e with e; omega))).trans Ee.1, (World.cell?_of_block (DR.block b hb (fun e => AP (by injection e)))).trans Ee.2⟩) fun p => (fun AA => ?_) (p rfl)
   clear p hK K;(try dsimp only at AA)
   try simp only [Act.put, sA, sB, sC]
   refine tj 9 24 AA ?_;refine tK ?_;clear AA;have DY := iD (hO.kept DR (zb fun q e => by have := (hO.lt q e).1; omega));have ER := Bc.out;have Pi := iD (zG hG DR);have GJ := Pi.size;rw [HW.out] at GJ;clear Av Bc ER Ee Fu Fp AE DR hO hD hG;obtain ⟨bb, Fb⟩ := eX ((!((kd == 4) == r)));rw [← Fb];clear Fb;rcases bb with _ | _
   ·go_wp2_with (at_builtin; go_must (refine zM rfl (.tmp 25) (.tmp 27) rfl yU (by rfl) (DY.alloc _) (by rfl) (Sl.newest (n := 1) (by simp) (by rfl) (by decide)) (by simp [Value.oneCell']) (by omega) (by omega) (by simp; omega) ?_; intro A' cap' w3 BL CG DU; have Az := iD BL; have CU := iD CG; clear BL CG DU))
    go_roundg (nd - (i + 1))
    case rel =>
     have EI := CU.out;have KL : ∀ k, (Value.slice A i c).ownBlock = some k → w.heap.size + 1 ≤ k := fun k e => (DY.lt k e).1
     refine ⟨i + 1, cap', A', s ++ [2], rfl, by go_num, by omega, rfl, ?_, ?_, ?_, ?_⟩
     ·have := Az.out;unfold Hid zL;rw [ze];exact this
     ·exact (BB.alloc _).grown EI (fun k e => by have := KL k e; omega)
     ·exact uS (zG Pi (zH ((Below.refl _ _).alloc lR _) _)) EI (fun k e => by have := KL k e; have := HW.out; omega)
     ·intro p hp;rcases List.mem_append.1 hp with h | h
      ·exact hP p h
      ·rw [List.mem_singleton.1 h]; decide
    case measure => omega
   ·go_wp2_with (at_builtin; go_must (refine zM rfl (.tmp 25) (.tmp 27) rfl yU (by rfl) (DY.alloc _) (by rfl) (Sl.newest (n := 1) (by simp) (by rfl) (by decide)) (by simp [Value.oneCell']) (by omega) (by omega) (by simp; omega) ?_; intro A' cap' w3 BL CG DU; have Az := iD BL; have CU := iD CG; clear BL CG DU))
    go_roundg (nd - (i + 1))
    case rel =>
     have EI := CU.out;have KL : ∀ k, (Value.slice A i c).ownBlock = some k → w.heap.size + 1 ≤ k := fun k e => (DY.lt k e).1
     refine ⟨i + 1, cap', A', s ++ [1], rfl, by go_num, by omega, rfl, ?_, ?_, ?_, ?_⟩
     ·have := Az.out;unfold Hid zL;rw [ze];exact this
     ·exact (BB.alloc _).grown EI (fun k e => by have := KL k e; omega)
     ·exact uS (zG Pi (zH ((Below.refl _ _).alloc lR _) _)) EI (fun k e => by have := KL k e; have := HW.out; omega)
     ·intro p hp;rcases List.mem_append.1 hp with h | h
      ·exact hP p h
      ·rw [List.mem_singleton.1 h]; decide
    case measure => omega
  ·obtain rfl : i = nd := by omega
   have Cw : decide (i < i) = false := by simp
   go_wp2_with fail
   go_ret;exact ⟨A, c, s, rfl, hD, zG CB hG, hO, hP⟩
def qP (ns : List Nd) (C : List Int) (v : Nat) (out : List Int) : Prop := out.length ≤ v ∧ ∀ x : Int, x ∈ out ↔ ∃ (k : Nat) (y : Nd), k < v ∧ x = k ∧ C.getD k 0 = 1 ∧ ns[k]? = some y ∧ 0 < y.cust
theorem qP.start (ns : List Nd) (C : List Int) : qP ns C 0 [] := ⟨Nat.le_refl _, fun x => ⟨(fun h => by cases h), (fun ⟨k, _, hk, _⟩ => by omega)⟩⟩
theorem qP.pass {ns : List Nd} {C out : List Int} {v : Nat} {y : Nd} (h : qP ns C v out) (hy : ns[v]? = some y) (hn : ¬ (C.getD v 0 = 1 ∧ 0 < y.cust)) : qP ns C (v + 1) out := by
 refine ⟨by have := h.1; omega, fun x => (h.2 x).trans ⟨?_, ?_⟩⟩
 ·rintro ⟨k, z, hk, r⟩; exact ⟨k, z, by omega, r⟩
 ·rintro ⟨k, z, hk, e, hc, hz, hu⟩;rcases Nat.lt_succ_iff_lt_or_eq.1 hk with hk | rfl
  ·exact ⟨k, z, hk, e, hc, hz, hu⟩
  ·rw [hy] at hz; injection hz with hz; subst hz; exact absurd ⟨hc, hu⟩ hn
theorem qP.put {ns : List Nd} {C out : List Int} {v : Nat} {y : Nd} (h : qP ns C v out) (hy : ns[v]? = some y) (hc : C.getD v 0 = 1) (hu : 0 < y.cust) : qP ns C (v + 1) (out ++ [(v : Int)]) := by
 refine ⟨by have := h.1; simp; omega, fun x => ?_⟩;rw [List.mem_append, h.2 x, List.mem_singleton]
 constructor
 ·rintro (⟨k, z, hk, r⟩ | rfl)
  ·exact ⟨k, z, by omega, r⟩
  ·exact ⟨v, y, by omega, rfl, hc, hy, hu⟩
 ·rintro ⟨k, z, hk, e, r⟩;rcases Nat.lt_succ_iff_lt_or_eq.1 hk with hk | rfl
  ·exact .inl ⟨k, z, hk, e, r⟩
  ·exact .inr e
def SpR (w2 : World) (ns : List Nd) (C : List Int) (nn gk : Nat) (ov iv : Value) (wr : World) : Prop := ∃ (v m co : Nat) (Ao : Option Addr) (out : List Int), iv = .int .i64 v ∧ ov = .slice Ao m co ∧ v ≤ nn ∧ gk = nn - v ∧ Hid (zL wr w2.heap.size Ao m co out) ∧ Hid (bW w2 wr) ∧ Hid (qP ns C v out)
def eG (ns : List Nd) (ds : List Dv) (s out : List Int) : Prop := out.length ≤ ns.length ∧ ∀ x : Int, x ∈ out ↔ ∃ (k : Nat) (y : Nd), x = k ∧ ns[k]? = some y ∧ 0 < y.cust ∧ Gj ds s k
theorem qs (An Ad As : Option Addr) (nn cn nd cd n c : Nat) (ns : List Nd) (ds : List Dv) (s : List Int) (w : World) (hn : BI w 3 An nn cn (ns.flatMap Nd.cells)) (hd : BI w 5 Ad nd cd (ds.flatMap Dv.cells)) (hs : BI w 1 As n c (zE s))
 (Bg : FP ns) (BU : Fv ds) (Bq : nn ≤ 10000) (Uh : zQ ns ds s = 0) (Ae : nd ≤ n ∧ yf nn ds ∧ ∀ x ∈ ds, zV x.kind = true → x.b ≠ x.a) (hA : Im nn ds ∧ ∀ x ∈ ds, 1 ≤ x.kind ∧ x.kind ≤ 6) :
 Calls prog 120 #[.agg #[.slice An nn cn, .slice Ad nd cd], .slice As n c] w fun e w' => ∃ Ao m co out, e = .returned (.tuple #[.slice Ao m co, .int .i64 0]) ∧ Hid (zL w' w.heap.size Ao m co out) ∧ Hid (eG ns ds s out) ∧ Hid (bW w w') := by
 have Cb := iD (hn.len (fun _ => rfl) (by decide));have Cm := iD (vQ An Ad As nn cn nd cd n c w.heap.size w.heap.size w.heap.size ns ds s (w.alloc (.cells #[.slice An nn cn, .slice Ad nd cd] 30)) (hn.alloc lR _) (hd.alloc lR _) (hs.alloc lR _) (by simp) (by simp) (by simp) Bg BU Bq (fun _ => Ae) (fun _ => hA));rw [Uh] at Cm;have HN := iD hn;have Ut := hn.le;clear hn hd hs Bg BU Uh Ae hA
 go_enter func120, ntmps120
 go_upto_region 1 with (fail);have HB := iD (AJ.new w 30 #[.slice An nn cn, .slice Ad nd cd]);have HW : Hid (Below w.heap.size w (w.alloc (.cells #[.slice An nn cn, .slice Ad nd cd] 30))) := (Below.refl _ _).alloc lR _;generalize World.alloc _ _ = w1 at *;obtain ⟨nb, CF⟩ := eX w.heap.size;rw [← CF] at HB ⊢;clear CF;obtain ⟨k0, k1⟩ := HB.d2
 go_wp2_with fail
 clear k0 k1;refine Cm.mono ?_;rintro e w2 ⟨AZ, h | ⟨_, Ac, C, rfl, QN, MF⟩⟩
 ·exact absurd rfl h.1
 have Ah := iD (HB.below AZ HB.lt);have Bj := iD (HW.trans (AZ.mono HW.size));have Qa := iD QN.sl;have Ej := iD (HN.below Bj lR);clear QN Cm HB HW AZ HN
 go_wp2_with fail
 go_loopg [8, 9] nn (SpR w2 ns C nn)
 case atStart => exact ⟨0, 0, 0, none, [], rfl, rfl, Nat.zero_le _, rfl, World.ownsRow_nil _ _ _ _, Below.refl _ _, qP.start _ _⟩
 case round =>
  obtain ⟨v, m, co, Ao, out, rfl, rfl, hv, rfl, hO, AU, hsp⟩ := hrel;by_cases hlt : v < nn
  ·obtain ⟨b, off, cv, rfl, hb, hcv, hc⟩ := (Qa.below AU lR).at1 hlt;obtain ⟨b1, MR, z, rfl, AV, hz, LK⟩ := (Ej.below AU Bj.size).at (fun _ => rfl) (by decide) hlt;have HZ := iD hz;have FN := iD (yB hcv);obtain ⟨Dm, cu, Bi⟩ := z;have c1 : wr.cell? ⟨b1, MR + v * 3 + 1, none⟩ = some (.int .i64 cu) := LK 1 _ rfl;have k0 := (Ah.below AU Ah.lt).c0;clear LK hz hcv;by_cases h1 : cv = 1; rotate_left
   ·have q : (cv == 1) = false := by simpa using h1
    have BO := iD (hsp.pass HZ (fun h => h1 (by have := h.1; rw [FN.out] at this; exact this)));clear h1
    go_wp2_with fail
    go_roundg (nn - (v + 1))
    ·exact ⟨v + 1, m, co, Ao, out, by go_num, rfl, by omega, rfl, hO, AU, BO⟩
    omega
   ·have q : (cv == 1) = true := by simpa using h1
    by_cases DK : 0 < cu; rotate_left
    ·have qc : decide (0 < cu) = false := by simpa using DK
     have BO := iD (hsp.pass HZ (fun h => DK h.2));clear h1 DK
     go_wp2_with fail
     go_roundg (nn - (v + 1))
     ·exact ⟨v + 1, m, co, Ao, out, by go_num, rfl, by omega, rfl, hO, AU, BO⟩
     omega
    ·have qc : decide (0 < cu) = true := by simpa using DK
     have BO := iD (hsp.put HZ (by rw [FN.out]; exact h1) DK);have TS : m ≤ nn := by have := hsp.1; rw [hO.len] at this; omega
     have AH := AU.size;clear h1 DK
     go_wp2_with (at_builtin; go_must (refine zM rfl (.tmp 36) (.tmp 38) rfl yU (by rfl) (hO.alloc _) (by rfl) (Sl.newest (n := 1) (by simp) (by rfl) (by decide)) (by simp [Value.oneCell']) (by omega) (by omega) (by simp; omega) ?_; intro A' cap' w3 BL CG DU; have Az := iD BL; have CU := iD CG; clear BL CG DU))
     go_roundg (nn - (v + 1))
     case rel =>
      refine ⟨v + 1, m + 1, cap', A', out ++ [(v : Int)], by go_num, rfl, by omega, rfl, ?_, ?_, BO⟩
      ·have := Az.out;unfold Hid zL;rw [ze];exact this
      ·refine (AU.alloc AU.size _).trans ⟨CU.os, CU.tape, CU.output, CU.size, fun i hi => CU.block i (by simp; omega) (fun e => ?_)⟩;have := (hO.lt i e.symm).1;omega
     case measure => omega
  ·obtain rfl : v = nn := by omega
   have Cw : decide (v < v) = false := by simp
   go_wp2_with fail
   go_ret2;refine ⟨Ao, m, co, out, rfl, hO.mono Bj.size, ⟨by rw [Cb.out]; exact hsp.1, fun x => (hsp.2 x).trans ?_⟩, Bj.trans (AU.mono Bj.size)⟩;have col : ∀ k : Nat, k < v → (C.getD k 0 = 1 ↔ Gj ds s k) := fun k hk => by rw [yB (MF.2 k hk)]; exact lm
   constructor
   ·rintro ⟨k, y, hk, e, hc, hy, hu⟩; exact ⟨k, y, e, hy, hu, (col k hk).1 hc⟩
   ·rintro ⟨k, y, e, hy, hu, hc⟩;have hk : k < v := by have := (List.getElem?_eq_some_iff.1 hy).1; rw [Cb.out] at this; exact this
    exact ⟨k, y, hk, e, (col k hk).2 hc, hy, hu⟩
theorem kz (An Ad As : Option Addr) (nn cn nd cd n c Bn Bd Bs : Nat) (ns : List Nd) (ds : List Dv) (s : List Int) (w : World) (hn : Sl w Bn 3 An nn cn (ns.flatMap Nd.cells)) (CS : Bn ≤ w.heap.size) (hd : Sl w Bd 5 Ad nd cd (ds.flatMap Dv.cells)) (BP : Bd ≤ w.heap.size) (hs : Sl w Bs 1 As n c (zE s)) (CJ : Bs ≤ w.heap.size)
 (Bq : nn ≤ 10000) (AB : nd ≤ 10000) (hl : nd ≤ n) (Ae : yf nn ds) (hA : Im nn ds) :
 Calls prog 193 #[.agg #[.slice An nn cn, .slice Ad nd cd], .slice As n c] w fun e w' => ∃ Ao m co out, e = .returned (.slice Ao m co) ∧ Hid (zL w' w.heap.size Ao m co out) ∧ Hid (eG ns ds s out) ∧ Hid (bW w w') := by
 have Cb := iD (hn.len (fun _ => rfl) (by decide));have Cm := iD (vX An Ad As nn cn nd cd n c Bd Bs ds s (w.alloc (.cells #[.slice An nn cn, .slice Ad nd cd] 30)) (hd.alloc BP _) (by simp; omega) (hs.alloc CJ _) (by simp; omega) Bq AB hl Ae hA);have HN := iD hn;have Ut := hn.le;clear hn hd hs Ae hA
 go_enter func193, ntmps193
 go_upto_region 1 with (fail);have HB := iD (AJ.new w 30 #[.slice An nn cn, .slice Ad nd cd]);have HW : Hid (Below w.heap.size w (w.alloc (.cells #[.slice An nn cn, .slice Ad nd cd] 30))) := (Below.refl _ _).alloc lR _;generalize World.alloc _ _ = w1 at *;obtain ⟨nb, CF⟩ := eX w.heap.size;rw [← CF] at HB ⊢;have Fh := iD CF;clear CF;obtain ⟨k0, k1⟩ := HB.d2
 go_wp2_with fail
 clear k0 k1;refine Cm.mono ?_;rintro e w2 ⟨A1, A2, P, C, rfl, _, QN, _, MF, AZ⟩;have Ah := iD (HB.below AZ HB.lt);have Bj := iD (HW.trans (AZ.mono HW.size));have Qa := iD QN.sl;have Ej := iD (HN.below Bj CS);clear QN Cm HB HW AZ HN;have k0 := Ah.c0
 go_wp2_with fail
 clear k0
 go_loopg [7, 19] nn (SpR w2 ns C nn)
 case atStart => exact ⟨0, 0, 0, none, [], rfl, rfl, Nat.zero_le _, rfl, World.ownsRow_nil _ _ _ _, Below.refl _ _, qP.start _ _⟩
 case round =>
  obtain ⟨v, m, co, Ao, out, rfl, rfl, hv, rfl, hO, AU, hsp⟩ := hrel;by_cases hlt : v < nn
  ·obtain ⟨b, off, cv, rfl, hb, hcv, hc⟩ := (Qa.below AU lR).at1 hlt;obtain ⟨b1, MR, z, rfl, AV, hz, LK⟩ := (Ej.below AU (Nat.le_trans CS Bj.size)).at (fun _ => rfl) (by decide) hlt;have HZ := iD hz;have FN := iD (yB hcv);obtain ⟨Dm, cu, Bi⟩ := z;have c0 : wr.cell? ⟨b1, MR + v * 3, none⟩ = some (.string Dm) := LK 0 _ rfl;have c1 : wr.cell? ⟨b1, MR + v * 3 + 1, none⟩ = some (.int .i64 cu) := LK 1 _ rfl;have c2 : wr.cell? ⟨b1, MR + v * 3 + 2, none⟩ = some (.int .i64 Bi) := LK 2 _ rfl;have Aj : b < wr.heap.size := by have := AU.size; omega
   have hne : b ≠ wr.heap.size := by omega
   have BH : Hid (Below w2.heap.size w2 (wr.alloc (.cells #[.string Dm, .int .i64 cu, .int .i64 Bi] 85))) := AU.alloc AU.size _;have GQ : Hid (zL (wr.alloc (.cells #[.string Dm, .int .i64 cu, .int .i64 Bi] 85)) w2.heap.size Ao m co out) := hO.alloc _;clear LK hz hcv;by_cases DK : 0 < cu; rotate_left
   ·have qc : decide (0 < cu) = false := by simpa using DK
    have BO := iD (hsp.pass HZ (fun h => DK h.2));clear DK
    go_wp2_with fail
    go_roundg (nn - (v + 1))
    ·exact ⟨v + 1, m, co, Ao, out, by go_num, rfl, by omega, rfl, GQ, BH, BO⟩
    omega
   ·have qc : decide (0 < cu) = true := by simpa using DK
    by_cases h1 : cv = 1; rotate_left
    ·have q : (cv == 1) = false := by simpa using h1
     have BO := iD (hsp.pass HZ (fun h => h1 (by have := h.1; rw [FN.out] at this; exact this)));clear h1 DK
     go_wp2_with fail
     go_roundg (nn - (v + 1))
     ·exact ⟨v + 1, m, co, Ao, out, by go_num, rfl, by omega, rfl, GQ, BH, BO⟩
     omega
    ·have q : (cv == 1) = true := by simpa using h1
     have BO := iD (hsp.put HZ (by rw [FN.out]; exact h1) DK);have TS : m ≤ nn := by have := hsp.1; rw [hO.len] at this; omega
     have AH := BH.size;clear h1 DK;go_upto_region 7 with (fail);generalize World.alloc wr _ = wq at *;clear c0 c1 c2 hc
     go_wp2_with (at_builtin; go_must (refine zM rfl (.tmp 34) (.tmp 36) rfl yU (by rfl) (GQ.alloc _) (by rfl) (Sl.newest (n := 1) (by simp) (by rfl) (by decide)) (by simp [Value.oneCell']) (by omega) (by omega) (by simp; omega) ?_; intro A' cap' w3 BL CG DU; have Az := iD BL; have CU := iD CG; clear BL CG DU))
     go_roundg (nn - (v + 1))
     case rel =>
      refine ⟨v + 1, m + 1, cap', A', out ++ [(v : Int)], by go_num, rfl, by omega, rfl, ?_, ?_, BO⟩
      ·have := Az.out;unfold Hid zL;rw [ze];exact this
      ·refine (BH.alloc BH.size _).trans ⟨CU.os, CU.tape, CU.output, CU.size, fun i hi => CU.block i (by simp; omega) (fun e => ?_)⟩;have := (GQ.lt i e.symm).1;omega
     case measure => omega
  ·obtain rfl : v = nn := by omega
   have Cw : decide (v < v) = false := by simp
   go_wp2_with fail
   go_ret;refine ⟨Ao, m, co, out, rfl, hO.mono Bj.size, ⟨by rw [Cb.out]; exact hsp.1, fun x => (hsp.2 x).trans ?_⟩, Bj.trans (AU.mono Bj.size)⟩;have col : ∀ k : Nat, k < v → (C.getD k 0 = 1 ↔ Gj ds s k) := fun k hk => by rw [yB (MF.2 k hk)]; exact lm
   constructor
   ·rintro ⟨k, y, hk, e, hc, hy, hu⟩; exact ⟨k, y, e, hy, hu, (col k hk).1 hc⟩
   ·rintro ⟨k, y, e, hy, hu, hc⟩;have hk : k < v := by have := (List.getElem?_eq_some_iff.1 hy).1; rw [Cb.out] at this; exact this
    exact ⟨k, y, hk, e, (col k hk).2 hc, hy, hu⟩
theorem sq (An Ad As : Option Addr) (nn cn nd cd n c Bn Bd Bs : Nat) (ns : List Nd) (ds : List Dv) (s : List Int) (w : World) (hL : Laid w) (hn : Sl w Bn 3 An nn cn (ns.flatMap Nd.cells)) (CS : Bn ≤ w.heap.size) (hd : Sl w Bd 5 Ad nd cd (ds.flatMap Dv.cells)) (BP : Bd ≤ w.heap.size) (hs : Sl w Bs 1 As n c (zE s)) (CJ : Bs ≤ w.heap.size)
 (Bg : FP ns) (BU : Fv ds) (h0 : zQ ns ds s = 0) (Bq : nn ≤ 10000) (AB : nd ≤ 10000) (hl : nd ≤ n) (Ae : yf nn ds) (hA : Im nn ds) :
 Calls prog 176 #[.agg #[.slice An nn cn, .slice Ad nd cd], .slice As n c] w fun e w' => ∃ Ao m co out, e = .returned (.tuple #[.slice Ao m co, .int .i64 0]) ∧ Hid (zL w' w.heap.size Ao m co out) ∧ Hid (eG ns ds s out) ∧ Hid (bW w w') := by
 have HB : Hid (Below w.heap.size w (w.alloc (.cells #[.slice An nn cn, .slice Ad nd cd] 30))) := (Below.refl _ _).alloc lR _;have HK := iD (AJ.new w 30 #[.slice An nn cn, .slice Ad nd cd]);have HL := iD hL; have HN := iD hn; have HD := iD hd; have HS := iD hs; have Ej := iD Bg; have Ce := iD BU; have H0 := iD h0; have HE := iD Ae; have HA := iD hA;clear hL hn hd hs Bg BU h0 Ae hA
 go_enter func176, ntmps176
 go_wp2_with fail
 generalize World.alloc _ _ = W at *;have hz := HB.size;have HC := iD (rh An Ad As nn cn nd cd n c Bn Bd Bs ns ds s W (HL.below HB lR) (HN.below HB CS) (HD.below HB BP) (HS.below HB CJ) (by omega) (by omega) (by omega) Ej Ce);rw [H0.out] at HC;refine HC.mono ?_;rintro e w1 ⟨rfl, AV⟩;have AQ := iD (HB.trans (AV.mono hz));have De := iD (HK.below AV HK.lt);have ER := AQ.size;clear AV HC HB HK hz;obtain ⟨k0, k1⟩ := De.d2
 go_wp2_with fail
 clear k0 k1;refine (kz An Ad As nn cn nd cd n c Bn Bd Bs ns ds s w1 (HN.below AQ CS) (by omega) (HD.below AQ BP) (by omega) (HS.below AQ CJ) (by omega) Bq AB hl HE HA).mono ?_;rintro e w2 ⟨Ao, m, co, out, rfl, hO, AW, AZ⟩
 go_wp2_with fail
 go_ret2;exact ⟨Ao, m, co, out, rfl, hO.mono ER, AW, AQ.trans (AZ.mono ER)⟩
def CuR (W : World) (m gk : Nat) (sv iv : Value) (wr : World) : Prop := ∃ (i : Nat) (k : Int), iv = .int .i64 i ∧ sv = .int .i64 k ∧ i ≤ m ∧ gk = m - i ∧ Hid (bW W wr)
theorem jV (An Ad A : Option Addr) (nn cn nd cd m c Bn B : Nat) (ns : List Nd) (l : List Int) (w : World) (hn : Sl w Bn 3 An nn cn (ns.flatMap Nd.cells)) (CS : Bn ≤ w.heap.size) (hs : Sl w B 1 A m c (zE l)) (hB : B ≤ w.heap.size) (hl : ∀ v ∈ l, 0 ≤ v ∧ v < nn) :
 Calls prog 179 #[.agg #[.slice An nn cn, .slice Ad nd cd], .slice A m c] w fun e w' => ∃ k : Int, e = .returned (.int .i64 k) ∧ Hid (bW w w') := by
 have CB : Hid (Below w.heap.size w (w.alloc (.cells #[.slice An nn cn, .slice Ad nd cd] 30))) := (Below.refl _ _).alloc lR _;have HK := iD (AJ.new w 30 #[.slice An nn cn, .slice Ad nd cd]);have HN := iD hn; have HS := iD hs; have HI := iD hl;have Ut := hn.le; have AL := hs.le;clear hn hs hl
 go_enter func179, ntmps179
 go_wp2_with fail
 generalize World.alloc _ _ = W at *
 go_loopg [5, 10] m (CuR W m)
 case atStart => exact ⟨0, 0, rfl, rfl, Nat.zero_le _, rfl, Below.refl _ _⟩
 case round =>
  obtain ⟨i, k, rfl, rfl, hi, rfl, AU⟩ := hrel;have AQ := iD (CB.trans (AU.mono CB.size));by_cases hlt : i < m
  ·obtain ⟨b, off, v, rfl, hb, hv, hc⟩ := (HS.below AQ hB).at1 hlt;obtain ⟨IQ, Ci⟩ := HI v (List.mem_of_getElem? hv);obtain ⟨t, rfl⟩ := Int.eq_ofNat_of_zero_le IQ;have Ua : t < nn := by omega
   obtain ⟨b1, MR, z, rfl, AV, hz, LK⟩ := (HN.below AQ CS).at (fun _ => rfl) (by decide) Ua;obtain ⟨Dm, cu, Bi⟩ := z;have c1 : wr.cell? ⟨b1, MR + t * 3 + 1, none⟩ = some (.int .i64 cu) := LK 1 _ rfl;have k0 := (HK.below AU HK.lt).c0;clear LK hz hv
   go_wp2_with fail
   go_roundg (m - (i + 1))
   ·exact ⟨i + 1, _, by go_num, rfl, by omega, rfl, AU⟩
   omega
  ·obtain rfl : i = m := by omega
   have Cw : decide (i < i) = false := by simp
   go_wp2_with fail
   go_ret;exact ⟨k, rfl, AQ⟩
def qf (a b : List Int) (i : Nat) (out : List Int) : Prop := out.length ≤ i ∧ ∀ x : Int, x ∈ out ↔ x ∈ a.take i ∧ x ∉ b
theorem qf.start (a b : List Int) : qf a b 0 [] := ⟨Nat.le_refl _, fun x => by simp⟩
theorem qf.pass {a b out : List Int} {i : Nat} {x : Int} (h : qf a b i out) (hx : a[i]? = some x) (hm : x ∈ b) : qf a b (i + 1) out := by
 refine ⟨by have := h.1; omega, fun y => (h.2 y).trans ?_⟩;rw [zP hx, List.mem_append, List.mem_singleton];exact ⟨fun k => ⟨.inl k.1, k.2⟩, fun k => ⟨k.1.elim id (fun e => by subst e; exact absurd hm k.2), k.2⟩⟩
theorem qf.put {a b out : List Int} {i : Nat} {x : Int} (h : qf a b i out) (hx : a[i]? = some x) (hm : x ∉ b) : qf a b (i + 1) (out ++ [x]) := by
 refine ⟨by have := h.1; simp; omega, fun y => ?_⟩;rw [zP hx, List.mem_append, List.mem_singleton, List.mem_append, List.mem_singleton, h.2 y];exact ⟨fun k => k.elim (fun k => ⟨.inl k.1, k.2⟩) (fun e => by subst e; exact ⟨.inr rfl, hm⟩), fun k => k.1.elim (fun k1 => .inl ⟨k1, k.2⟩) .inr⟩
def dF (w3 : World) (a b : List Int) (na gk : Nat) (ov iv : Value) (wr : World) : Prop := ∃ (i m co : Nat) (Ao : Option Addr) (out : List Int), iv = .int .i64 i ∧ ov = .slice Ao m co ∧ i ≤ na ∧ gk = na - i ∧ Hid (zL wr w3.heap.size Ao m co out) ∧ Hid (bW w3 wr) ∧ Hid (qf a b i out)
def kZ (ns : List Nd) (ds : List Dv) (s s2 out : List Int) : Prop := ∀ x : Int, x ∈ out ↔ ∃ (k : Nat) (y : Nd), x = k ∧ ns[k]? = some y ∧ 0 < y.cust ∧ Gj ds s k ∧ ¬ Gj ds s2 k
theorem qw (An Ad As At : Option Addr) (nn cn nd cd n c n2 c2 : Nat) (ns : List Nd) (ds : List Dv) (s s2 : List Int) (w : World) (hn : BI w 3 An nn cn (ns.flatMap Nd.cells)) (hd : BI w 5 Ad nd cd (ds.flatMap Dv.cells)) (hs : BI w 1 As n c (zE s)) (Jn : BI w 1 At n2 c2 (zE s2))
 (Bg : FP ns) (BU : Fv ds) (Bq : nn ≤ 10000) (Uh : zQ ns ds s = 0) (Ug : zQ ns ds s2 = 0) (AO : nd ≤ n) (Nr : nd ≤ n2) (Ae : yf nn ds ∧ ∀ x ∈ ds, zV x.kind = true → x.b ≠ x.a) (hA : Im nn ds ∧ ∀ x ∈ ds, 1 ≤ x.kind ∧ x.kind ≤ 6) :
 Calls prog 95 #[.agg #[.slice An nn cn, .slice Ad nd cd], .slice As n c, .slice At n2 c2] w fun e w' => ∃ Ao m co out k, e = .returned (.tuple #[.slice Ao m co, .int .i64 k, .int .i64 0]) ∧ Hid (out.length = m) ∧ Hid (m ≤ nn) ∧ Hid (kZ ns ds s s2 out) ∧ Hid (bW w w') := by
 have Cb := iD (hn.len (fun _ => rfl) (by decide));have HN := iD hn; have HD := iD hd; have HS := iD hs; have DN := iD Jn;have Fw := iD (And.intro Bg BU);have HE := iD Ae; have HA := iD hA; have Hd := iD Uh; have AG := iD Ug;clear hn hd hs Jn Bg BU Uh Ug Ae hA
 go_enter func95, ntmps95
 go_upto_region 1 with (fail);have HB := iD (AJ.new w 30 #[.slice An nn cn, .slice Ad nd cd]);have HW : Hid (Below w.heap.size w (w.alloc (.cells #[.slice An nn cn, .slice Ad nd cd] 30))) := (Below.refl _ _).alloc lR _;generalize World.alloc _ _ = w1 at *;obtain ⟨nb, CF⟩ := eX w.heap.size;rw [← CF] at HB ⊢;clear CF;obtain ⟨k0, k1⟩ := HB.d2
 go_wp2_with fail
 clear k0 k1;refine (qs An Ad As nn cn nd cd n c ns ds s w1 ((HN.below HW lR).more HW.size) ((HD.below HW lR).more HW.size) ((HS.below HW lR).more HW.size) Fw.1 Fw.2 Bq Hd ⟨AO, HE⟩ HA).mono ?_;rintro e w2 ⟨Aa, ma, ca, la, rfl, QO, Rc, AZ⟩;have Ai := iD (HB.below AZ HB.lt);have JZ := iD (HW.trans (AZ.mono HW.size));clear HB AZ HW;obtain ⟨k0, k1⟩ := Ai.d2
 go_wp2_with fail
 clear k0 k1;refine (qs An Ad At nn cn nd cd n2 c2 ns ds s2 w2 ((HN.below JZ lR).more JZ.size) ((HD.below JZ lR).more JZ.size) ((DN.below JZ lR).more JZ.size) Fw.1 Fw.2 Bq AG ⟨Nr, HE⟩ HA).mono ?_;rintro e w3 ⟨Ab, mb, cb, lb, rfl, VN, AX, BX⟩;have CO := iD (Ai.below BX Ai.lt);have AK := iD (JZ.trans (BX.mono JZ.size));have Af := iD (QO.later BX).sl;have NM := iD VN.sl;have GV := iD QO.len;have Ag : ma ≤ nn := by have := Rc.1; rw [GV.out, Cb.out] at this; exact this
 clear Ai BX JZ QO VN
 go_wp2_with fail
 go_loopg [12, 13] ma (dF w3 la lb ma)
 case atStart => exact ⟨0, 0, 0, none, [], rfl, rfl, Nat.zero_le _, rfl, World.ownsRow_nil _ _ _ _, Below.refl _ _, qf.start _ _⟩
 case round =>
  obtain ⟨i, m, co, Ao, out, rfl, rfl, hi, rfl, hO, AU, Ei⟩ := hrel;by_cases hlt : i < ma
  ·obtain ⟨b, off, x, rfl, hb, hx, hc⟩ := (Af.below AU lR).at1 hlt;have HX := iD hx;have HR := iD (nB Ab mb cb lb x wr ((NM.below AU lR).more AU.size));clear hx;rcases hm : decide (x ∈ lb) with _ | _
   ·rw [hm] at HR;have HI := iD (Ei.put HX (by simpa using hm));have TS : m ≤ nn := by have := Ei.1; rw [hO.len] at this; omega
    have AH := AU.size;clear hm
    go_wp2_with fail
    refine HR.mono ?_;rintro e w4 ⟨rfl, rfl⟩
    go_wp2_with (at_builtin; go_must (refine zM rfl (.tmp 45) (.tmp 50) rfl yU (by rfl) (hO.alloc _) (by rfl) (Sl.newest (n := 1) (by simp) (by rfl) (by decide)) (by simp [Value.oneCell']) (by omega) (by omega) (by simp; omega) ?_; intro A' cap' w3 BL CG DU; have Az := iD BL; have CU := iD CG; clear BL CG DU))
    go_roundg (ma - (i + 1))
    case rel =>
     refine ⟨i + 1, m + 1, cap', A', out ++ [x], by go_num, rfl, by omega, rfl, ?_, ?_, HI⟩
     ·have := Az.out;unfold Hid zL;rw [ze];exact this
     ·refine (AU.alloc AU.size _).trans ⟨CU.os, CU.tape, CU.output, CU.size, fun i hi => CU.block i (by simp; omega) (fun e => ?_)⟩;have := (hO.lt i e.symm).1;omega
    case measure => omega
   ·rw [hm] at HR;have HI := iD (Ei.pass HX (by simpa using hm));clear hm
    go_wp2_with fail
    refine HR.mono ?_;rintro e w4 ⟨rfl, rfl⟩
    go_wp2_with fail
    go_roundg (ma - (i + 1))
    ·exact ⟨i + 1, m, co, Ao, out, by go_num, rfl, by omega, rfl, hO, AU, HI⟩
    omega
  ·obtain rfl : i = ma := by omega
   have Cw : decide (i < i) = false := by simp
   obtain ⟨k0, k1⟩ := (CO.below AU CO.lt).d2;have PK := iD (AK.trans (AU.mono AK.size))
   have Fx : Hid (kZ ns ds s s2 out) := fun x => by
    rw [Ei.2 x, List.take_of_length_le (by rw [GV.out]; exact Nat.le_refl _), Rc.2 x, AX.2 x]
    constructor
    ·rintro ⟨⟨k, y, e, hy, hu, hc⟩, h2⟩; exact ⟨k, y, e, hy, hu, hc, fun h => h2 ⟨k, y, e, hy, hu, h⟩⟩
    ·rintro ⟨k, y, e, hy, hu, hc, h2⟩;refine ⟨⟨k, y, e, hy, hu, hc⟩, ?_⟩;rintro ⟨k', y', e', _, _, h⟩;obtain rfl : k = k' := by omega
     exact h2 h
   have Iz := iD hO.len;have TS : m ≤ nn := by have := Ei.1; rw [Iz.out] at this; omega
   go_wp2_with fail
   clear k0 k1
   refine (jy An Ad Ao nn cn nd cd m co ns out wr ((HN.below PK lR).more PK.size) hO.sl (fun x hx => by
    obtain ⟨k, y, rfl, hy, _⟩ := (Fx x).1 hx;have := (List.getElem?_eq_some_iff.1 hy).1;rw [Cb.out] at this;omega)).mono ?_
   rintro e w5 ⟨⟨k, rfl⟩, BN⟩
   go_wp2_with fail
   go_ret3;exact ⟨Ao, m, co, out, k, rfl, Iz, TS, Fx, PK.trans (BN.mono PK.size)⟩
def zJ (ns : List Nd) (ds : List Dv) (ls : List Lk) : Int := if zR ns ds ≠ 0 then zR ns ds else if 128 < ls.length then 1 else yL ds ls ls.length
theorem pG {ds : List Dv} {x : Dv} {i : Nat} (h : ds[i]? = some x) : rl ds (i : Int) = x.kind := by unfold rl; rw [Int.toNat_natCast, h]
theorem rW (An Ad : Option Addr) (nn cn nd cd Bd : Nat) (ds : List Dv) (d p q : Int) (w : World) (hd : Sl w Bd 5 Ad nd cd (ds.flatMap Dv.cells)) (BP : Bd ≤ w.heap.size) :
 Calls prog 81 #[.agg #[.slice An nn cn, .slice Ad nd cd], .agg #[.int .i64 d, .int .i64 p, .int .i64 q]] w fun e w' => e = .returned (.int .i64 (zv ds ⟨d, p, q⟩)) ∧ bW w w' := by
 have FL := iD (hd.len (fun _ => rfl) (by decide));have HE : Hid (zv ds ⟨d, p, q⟩ = if d < 0 then 8 else if (nd : Int) ≤ d then 8 else if rl ds d = 5 then 6 else if p ≠ 1 ∧ p ≠ 2 then 10 else if q < 0 then 5 else if 65536 < q then 5 else 0) := by unfold Hid zv; rw [FL.out]
 have HB : Hid (Below w.heap.size w ((w.alloc (.cells #[.slice An nn cn, .slice Ad nd cd] 30)).alloc (.cells #[.int .i64 d, .int .i64 p, .int .i64 q] 106))) := ((Below.refl _ _).alloc lR _).alloc (by simp) _;have Nf := iD ((hd.alloc BP (.cells #[.slice An nn cn, .slice Ad nd cd] 30)).alloc (by simp; omega) (.cells #[.int .i64 d, .int .i64 p, .int .i64 q] 106));have JU := hd.le;clear hd;by_cases h1 : d < 0
 ·have q1 : decide (d < 0) = true := by simpa using h1
  go_enter func81, ntmps81
  go_wp2_with fail
  go_ret;exact ⟨zC (by rw [HE.out, if_pos h1]), HB⟩
 have q1 : decide (d < 0) = false := by simpa using h1
 by_cases h2 : (nd : Int) ≤ d
 ·have q2 : decide ((nd : Int) ≤ d) = true := by simpa using h2
  go_enter func81, ntmps81
  go_wp2_with fail
  go_ret;exact ⟨zC (by rw [HE.out, if_neg (by omega), if_pos h2]), HB⟩
 obtain ⟨i, rfl⟩ := Int.eq_ofNat_of_zero_le (show 0 ≤ d by omega);have Ei : i < nd := by omega
 have q2 : decide (nd ≤ i) = false := by simp; omega
 obtain ⟨b0, off, x, rfl, Fe, hx, hc⟩ := Nf.at (fun _ => rfl) (by decide) Ei;have HX := iD (pG hx);obtain ⟨nm, kd, xa, xb, co⟩ := x;have c1 := hc 1 _ rfl;clear hc hx;by_cases h3 : kd = 5
 ·subst h3
  go_enter func81, ntmps81
  go_wp2_with fail
  go_ret;exact ⟨zC (by rw [HE.out, if_neg (by omega), if_neg (by omega), HX.out, if_pos rfl]), HB⟩
 have q3 : (kd == 5) = false := by simpa using h3
 have HR : Hid (zv ds ⟨(i : Int), p, q⟩ = if p ≠ 1 ∧ p ≠ 2 then 10 else if q < 0 then 5 else if 65536 < q then 5 else 0) := by unfold Hid; rw [HE.out, if_neg (by omega), if_neg (by omega), HX.out, if_neg h3]
 clear h1 h2 h3 HE HX;by_cases h4 : p = 1 ∨ p = 2
 ·have FJ : Hid (zv ds ⟨(i : Int), p, q⟩ = if q < 0 then 5 else if 65536 < q then 5 else 0) := by unfold Hid; rw [HR.out, if_neg (by omega)]
  clear HR;by_cases h5 : q < 0
  ·have q5 : decide (q < 0) = true := by simpa using h5
   rcases h4 with rfl | rfl
   all_goals
    go_enter func81, ntmps81
    go_wp2_with fail
    go_ret;exact ⟨zC (by rw [FJ.out, if_pos h5]), HB⟩
  have q5 : decide (q < 0) = false := by simpa using h5
  by_cases h6 : 65536 < q
  ·have q6 : decide (65536 < q) = true := by simpa using h6
   rcases h4 with rfl | rfl
   all_goals
    go_enter func81, ntmps81
    go_wp2_with fail
    go_ret;exact ⟨zC (by rw [FJ.out, if_neg (by omega), if_pos h6]), HB⟩
  have q6 : decide (65536 < q) = false := by simpa using h6
  rcases h4 with rfl | rfl
  all_goals
   go_enter func81, ntmps81
   go_wp2_with fail
   go_ret;exact ⟨zC (by rw [FJ.out, if_neg (by omega), if_neg (by omega)]), HB⟩
 ·have p1 : (p != 1) = true := by simp; omega
  have p2 : (p != 2) = true := by simp; omega
  go_enter func81, ntmps81
  go_wp2_with fail
  go_ret;exact ⟨zC (by rw [HR.out, if_pos (by omega)]), HB⟩
theorem qL (a b : Lk) (w : World) : Calls prog 83 #[.agg #[.int .i64 a.dev, .int .i64 a.pos, .int .i64 a.key], .agg #[.int .i64 b.dev, .int .i64 b.pos, .int .i64 b.key]] w fun e w' => e = .returned (.bool (zq a b)) ∧ bW w w' := by
 obtain ⟨d, p, q⟩ := a;obtain ⟨d2, p2, q2⟩ := b;have HB : Hid (Below w.heap.size w ((w.alloc (.cells #[.int .i64 d, .int .i64 p, .int .i64 q] 106)).alloc (.cells #[.int .i64 d2, .int .i64 p2, .int .i64 q2] 106))) := ((Below.refl _ _).alloc lR _).alloc (by simp) _;by_cases h1 : d < d2
 ·have e1 : decide (d < d2) = true := by simpa using h1
  have HR : Hid (zq ⟨d, p, q⟩ ⟨d2, p2, q2⟩ = true) := (uX _ _).2 (.inl h1)
  go_enter func83, ntmps83
  go_wp2_with fail
  go_ret;exact ⟨zF HR.symm, HB⟩
 have e1 : decide (d < d2) = false := by simpa using h1
 by_cases h2 : d = d2
 ·subst h2;have HR : Hid (zq ⟨d, p, q⟩ ⟨d, p2, q2⟩ = decide (q < q2)) := by unfold Hid zq; simp
  go_enter func83, ntmps83
  go_wp2_with fail
  go_ret;exact ⟨zF HR.symm, HB⟩
 ·have e2 : (d == d2) = false := by simpa using h2
  have HR : Hid (zq ⟨d, p, q⟩ ⟨d2, p2, q2⟩ = false) := by unfold Hid zq; simp; omega
  go_enter func83, ntmps83
  go_wp2_with fail
  go_ret;exact ⟨zF HR.symm, HB⟩
def nV (ls : List Lk) (d : Int) : Ending := .returned (.tuple #[.int .i64 ((wQ ls d).getD 0), .bool (wQ ls d).isSome])
theorem ii {ls : List Lk} {d : Int} : ∀ {i : Nat}, (∀ x ∈ ls.take i, x.dev ≠ d) → wQ ls d = wQ (ls.drop i) d := by
 intro i
 induction i generalizing ls with
 | zero => intro _; rfl
 | succ i ih =>
  intro h;cases ls with
  | nil => rfl
  | cons x l =>
   rw [wQ, if_neg (h x (by simp)), List.drop_succ_cons];exact ih fun y hy => h y (by simp [hy])
theorem lw {ls : List Lk} {d : Int} {i : Nat} {x : Lk} (h : ∀ x ∈ ls.take i, x.dev ≠ d) (hx : ls[i]? = some x) (hd : x.dev = d) : wQ ls d = some x.pos := by
 rw [ii h];have hi := (List.getElem?_eq_some_iff.1 hx).1;rw [List.drop_eq_getElem_cons hi, wQ];have : ls[i] = x := by have := List.getElem?_eq_some_iff.1 hx; exact this.2
 rw [this, if_pos hd]
def dI (w : World) (ls : List Lk) (d : Int) (n gk : Nat) (iv : Value) (wr : World) : Prop := ∃ i : Nat, iv = .int .i64 i ∧ i ≤ n ∧ gk = n - i ∧ Hid (∀ x ∈ ls.take i, x.dev ≠ d) ∧ Hid (bW w wr)
theorem ox (A : Option Addr) (n c B : Nat) (ls : List Lk) (d : Int) (w : World) (hs : Sl w B 3 A n c (ls.flatMap Lk.cells)) (hB : B ≤ w.heap.size) :
 Calls prog 82 #[.slice A n c, .int .i64 d] w fun e w' => e = nV ls d ∧ bW w w' := by
 have Cb := iD (hs.len (fun _ => rfl) (by decide)); have HS := iD hs;have hle := hs.le;clear hs
 go_enter func82, ntmps82
 go_wp2_with fail
 go_loopg [6] n (dI w ls d n)
 case atStart => exact ⟨0, rfl, Nat.zero_le _, rfl, (fun x hx => by simp at hx), Below.refl _ _⟩
 case round =>
  obtain ⟨i, rfl, hi, rfl, hno, AU⟩ := hrel;by_cases hlt : i < n
  ·obtain ⟨b, off, d1, p1, q1, rfl, hb, hx, c0, c1, c2⟩ := (HS.below AU hB).lock hlt;have HX := iD hx;clear hx c2;by_cases hd : d1 = d
   ·subst hd;have HR : Hid (wQ ls d1 = some p1) := lw hno HX rfl;have qq : (d1 == d1) = true := by simp
    go_wp2_with fail
    go_ret2;exact ⟨by unfold nV; rw [HR.out]; rfl, AU⟩
   ·have qq : (d1 == d) = false := by simpa using hd
    have HN : Hid (∀ x ∈ ls.take (i + 1), x.dev ≠ d) := fun x hx => by
     rw [zP HX.out] at hx;rcases List.mem_append.1 hx with h | h
     ·exact hno x h
     ·rw [List.mem_singleton.1 h]; exact hd
    clear hd
    go_wp2_with fail
    go_roundg (n - (i + 1))
    ·exact ⟨i + 1, by go_num, by omega, rfl, HN, AU⟩
    omega
  ·obtain rfl : i = n := by omega
   have Cw : decide (i < i) = false := by simp
   have HR : Hid (wQ ls d = none) := by
    have := hno.out;rw [List.take_of_length_le (by rw [Cb.out]; exact Nat.le_refl _)] at this;exact uE.2 this
   go_wp2_with fail
   go_ret2;exact ⟨by unfold nV; rw [HR.out]; rfl, AU⟩
section
variable {w : World} {B size n c k : Nat} {A : Option Addr} {α : Type} {f : α → List Value} {l : List α}
theorem Sl.takeK (h : Sl w B size A n c (l.flatMap f)) (hf : ∀ x, (f x).length = size) (hs : 0 < size) (hk : k ≤ n) : Sl w B size A k c ((l.take k).flatMap f) := by
 have hl := h.len hf hs;obtain ⟨h1, h2, h3, h4, h5⟩ := h;refine ⟨by rw [yT hf, List.length_take, Nat.min_eq_left (by omega)], by omega, h3, h4, fun hp => ?_⟩;obtain ⟨b, off, e, hb, hc⟩ := h5 (by omega);refine ⟨b, off, e, hb, fun j u hu => hc j u ?_⟩;rw [← List.take_append_drop k l, List.flatMap_append, List.getElem?_append_left (List.getElem?_eq_some_iff.1 hu).1];exact hu
def oJ (A : Option Addr) (c k size : Nat) : Option Addr := if c = k then A else A.map (·.add (k * size))
theorem Sl.dropK (h : Sl w B size A n c (l.flatMap f)) (hf : ∀ x, (f x).length = size) (hs : 0 < size) (hk : k ≤ n) : Sl w B size (oJ A c k size) (n - k) (c - k) ((l.drop k).flatMap f) := by
 have hl := h.len hf hs;obtain ⟨h1, h2, h3, h4, h5⟩ := h;refine ⟨by rw [yT hf, List.length_drop, hl], by omega, by omega, fun e => ?_, fun hp => ?_⟩
 ·unfold oJ at e;split at e
  ·omega
  ·cases A with
   | none => have := h4 rfl; omega
   | some a => cases e
 ·obtain ⟨b, off, e, hb, hc⟩ := h5 (by omega);subst e;refine ⟨b, off + k * size, by unfold oJ; rw [if_neg (by omega), Option.map_some, xi], hb, fun j u hu => ?_⟩
  have := hc (k * size + j) u (by
   rw [← List.take_append_drop k l, List.flatMap_append, List.getElem?_append_right (by rw [yT hf, List.length_take, Nat.min_eq_left (by omega)]; omega), yT hf, List.length_take, Nat.min_eq_left (by omega), show k * size + j - k * size = j by omega];exact hu)
  rw [Nat.add_assoc]; exact this
end
theorem uA (w : World) (A : Option Addr) (n c k : Nat) (hk : k ≤ n) : (Instr.sliceAt 35 (.slice A n c) (some (.int .i64 (k : Int))) none none).run prog w = .ok (.slice (oJ A c k 3) (n - k) (c - k)) w := by
 rw [run_sliceAt_slice _ _ _ _ _ _ (by kernel_rfl), run_slice_l _ _ _ _ _ (by kernel_rfl) _ _ (by omega) (by omega)];have : (sizeOf (prog.elem 35)).run prog w = .ok 3 w := by kernel_rfl
 rw [this];simp [sliced, oJ, Result.andThen]
def mO (g : Nat) (lb : Array Value) (p : Lk → Bool) (w : World) : Prop :=
 ∀ (W : World) (d q r : Int), Below w.heap.size w W → Calls prog g (#[.agg #[.int .i64 d, .int .i64 q, .int .i64 r]] ++ lb) W fun e w' => e = .returned (.bool (p ⟨d, q, r⟩)) ∧ Below w.heap.size w w'
def IfR (w : World) (ls : List Lk) (p : Lk → Bool) (n gk : Nat) (_kv iv : Value) (wr : World) : Prop := ∃ i : Nat, iv = .int .i64 i ∧ i ≤ n ∧ gk = n - i ∧ Hid (∀ x ∈ ls.take i, p x = false) ∧ Hid (bW w wr)
theorem ip (g : Nat) (lb : Array Value) (p : Lk → Bool) (eg : ∀ args w, (callFunc g args).run prog w = .ok (.enter g args) w) (A : Option Addr) (n c B : Nat) (ls : List Lk) (w : World) (hs : Sl w B 3 A n c (ls.flatMap Lk.cells)) (hB : B ≤ w.heap.size) (hp : mO g lb p w) :
 Calls prog 173 #[.slice A n c, .func (.func g) #[] lb] w fun e w' => (∃ i : Int, e = .returned (.int .i64 i) ∧ Hid (decide (0 ≤ i) = ls.any p)) ∧ bW w w' := by
 have Cb := iD (hs.len (fun _ => rfl) (by decide)); have HS := iD hs;have hle := hs.le;have HP := iD hp;clear hs hp
 go_enter func173, ntmps173
 go_wp2_with fail
 go_loopg [5, 8] n (IfR w ls p n)
 case atStart => exact ⟨0, rfl, Nat.zero_le _, rfl, (fun x hx => by simp at hx), Below.refl _ _⟩
 case round =>
  obtain ⟨i, rfl, hi, rfl, hno, AU⟩ := hrel;by_cases hlt : i < n
  ·obtain ⟨b, off, d1, p1, q1, rfl, hb, hx, c0, c1, c2⟩ := (HS.below AU hB).lock hlt;have HX := iD hx;have FE := HP wr d1 p1 q1 AU.out;clear hx;rcases hq : p ⟨d1, p1, q1⟩ with _ | _
   ·rw [hq] at FE
    have HN : Hid (∀ x ∈ ls.take (i + 1), p x = false) := fun x hx => by
     rw [zP HX.out] at hx;rcases List.mem_append.1 hx with h | h
     ·exact hno x h
     ·rw [List.mem_singleton.1 h]; exact hq
    clear hq
    go_wp2_with (go_at_fn g; refine FE.mono ?_; rintro e w' ⟨rfl, hb'⟩)
    go_roundg (n - (i + 1))
    ·exact ⟨i + 1, by go_num, by omega, rfl, HN, hb'⟩
    omega
   ·rw [hq] at FE
    have HR : Hid (decide (0 ≤ (i : Int)) = ls.any p) := by
     unfold Hid;rw [decide_eq_true (by omega)]
     symm
     rw [List.any_eq_true];exact ⟨_, List.mem_of_getElem? HX, hq⟩
    clear hq
    go_wp2_with (go_at_fn g; refine FE.mono ?_; rintro e w' ⟨rfl, hb'⟩)
    go_ret;exact ⟨⟨_, rfl, HR⟩, hb'⟩
  ·obtain rfl : i = n := by omega
   have Cw : decide (i < i) = false := by simp
   have HR : Hid (decide (0 ≤ (-1 : Int)) = ls.any p) := by
    have := hno.out;rw [List.take_of_length_le (by rw [Cb.out]; exact Nat.le_refl _)] at this;unfold Hid;rw [decide_eq_false (by omega)]
    symm
    rw [List.any_eq_false];intro x hx;rw [this x hx]; simp
   go_wp2_with fail
   go_ret;exact ⟨⟨_, rfl, HR⟩, AU⟩
theorem sM (g : Nat) (lb : Array Value) (p : Lk → Bool) (eg : ∀ args w, (callFunc g args).run prog w = .ok (.enter g args) w) (A : Option Addr) (n c B : Nat) (ls : List Lk) (w : World) (hs : Sl w B 3 A n c (ls.flatMap Lk.cells)) (hB : B ≤ w.heap.size) (hp : mO g lb p w) :
 Calls prog 145 #[.slice A n c, .func (.func g) #[] lb] w fun e w' => e = .returned (.bool (ls.any p)) ∧ bW w w' := by
 have HI := iD (ip g lb p eg A n c B ls w hs hB hp);clear hs hp
 go_enter func145, ntmps145
 go_wp2_with fail
 refine HI.mono ?_;rintro e w1 ⟨⟨i, rfl, hi⟩, hb⟩
 go_wp2_with fail
 go_ret;exact ⟨zF hi, hb⟩
def zl (p : Int) : Bool := decide (1 ≤ p) && decide (p ≤ 3)
def MdR (w : World) (m : List Int) (n gk : Nat) (iv : Value) (wr : World) : Prop := ∃ i : Nat, iv = .int .i64 i ∧ i ≤ n ∧ gk = n - i ∧ Hid (∀ p ∈ m.take i, zl p = true) ∧ Hid (bW w wr)
theorem lE (A : Option Addr) (n c B : Nat) (m : List Int) (w : World) (hs : Sl w B 1 A n c (zE m)) (hB : B ≤ w.heap.size) : Calls prog 50 #[.slice A n c] w fun e w' => e = .returned (.bool (m.all zl)) ∧ bW w w' := by
 have NV := iD (hs.len (fun _ => rfl) (by decide)); have HS := iD hs;have hle := hs.le;clear hs
 go_enter func50, ntmps50
 go_wp2_with fail
 go_loopg [3] n (MdR w m n)
 case atStart => exact ⟨0, rfl, Nat.zero_le _, rfl, (by unfold Hid; simp), Below.refl _ _⟩
 case round =>
  obtain ⟨i, rfl, hi, rfl, CP, AU⟩ := hrel;by_cases hlt : i < n
  ·obtain ⟨b, off, x, rfl, hb, hx, hc⟩ := (HS.below AU hB).at1 hlt;have HX := iD hx;clear hx;by_cases h1 : x < 1
   ·have q : decide (x < 1) = true := by simpa using h1
    have HR : Hid (m.all zl = false) := by
     unfold Hid;rw [List.all_eq_false];exact ⟨x, List.mem_of_getElem? HX, by simp [zl]; omega⟩
    clear h1
    go_wp2_with fail
    go_ret;exact ⟨zF HR.symm, AU⟩
   ·have q : decide (x < 1) = false := by simpa using h1
    by_cases h2 : 3 < x
    ·have q2 : decide (3 < x) = true := by simpa using h2
     have HR : Hid (m.all zl = false) := by
      unfold Hid;rw [List.all_eq_false];exact ⟨x, List.mem_of_getElem? HX, by simp [zl]; omega⟩
     clear h1 h2
     go_wp2_with fail
     go_ret;exact ⟨zF HR.symm, AU⟩
    ·have q2 : decide (3 < x) = false := by simpa using h2
     have HR : Hid (∀ p ∈ m.take (i + 1), zl p = true) := by
      intro p hp;rw [zP HX.out] at hp;rcases List.mem_append.1 hp with h | h
      ·exact CP p h
      ·rw [List.mem_singleton.1 h]; simp [zl]; omega
     clear h1 h2
     go_wp2_with fail
     go_roundg (n - (i + 1))
     ·exact ⟨i + 1, by go_num, by omega, rfl, HR, AU⟩
     omega
  ·obtain rfl : i = n := by omega
   have Cw : decide (i < i) = false := by simp
   have HR : Hid (m.all zl = true) := by
    unfold Hid;have := CP.out;rw [List.take_of_length_le (by rw [NV.out]; exact Nat.le_refl _)] at this;exact List.all_eq_true.2 this
   go_wp2_with fail
   go_ret;exact ⟨zF HR.symm, AU⟩
theorem fE : xC prog 65 22 1 24 := xC.mk' (z := .slice none 0 0) underlying65 (by kernel_rfl) rfl (by decide)
def xG (w : World) (B : Nat) (A : Option Addr) (n c : Nat) (ls : List (List Int)) : Prop :=
 ∃ vs : List Value, Sl w B 1 A n c vs ∧ ls.length = n ∧ ∀ (i : Nat) (l : List Int), ls[i]? = some l → ∃ (A' : Option Addr) (c' : Nat), vs[i]? = some (Value.slice A' l.length c') ∧ Sl w B 1 A' l.length c' (zE l)
section
variable {w w' : World} {B B' n c i : Nat} {A : Option Addr} {ls : List (List Int)}
theorem xG.len (h : xG w B A n c ls) : ls.length = n := by obtain ⟨vs, _, hl, _⟩ := h; exact hl
theorem xG.le (h : xG w B A n c ls) : n ≤ c ∧ c ≤ 9223372036854775807 := by obtain ⟨vs, h1, _⟩ := h; exact h1.le
theorem xG.below (h : xG w B A n c ls) (hb : Below B' w w') (hB : B ≤ B') : xG w' B A n c ls := by
 obtain ⟨vs, h1, h2, h3⟩ := h;refine ⟨vs, h1.below hb hB, h2, fun i l hl => ?_⟩;obtain ⟨A', c', h4, h5⟩ := h3 i l hl;exact ⟨A', c', h4, h5.below hb hB⟩
theorem xG.more (h : xG w B A n c ls) (hB : B ≤ B') : xG w B' A n c ls := by
 obtain ⟨vs, h1, h2, h3⟩ := h;refine ⟨vs, h1.more hB, h2, fun i l hl => ?_⟩;obtain ⟨A', c', h4, h5⟩ := h3 i l hl;exact ⟨A', c', h4, h5.more hB⟩
theorem xG.at (h : xG w B A n c ls) (hi : i < n) : ∃ b off l A' c', A = some ⟨b, off, none⟩ ∧ b < B ∧ ls[i]? = some l ∧ w.cell? ⟨b, off + i, none⟩ = some (Value.slice A' l.length c') ∧ Sl w B 1 A' l.length c' (zE l) := by
 obtain ⟨vs, h1, h2, h3⟩ := h;obtain ⟨b, off, e, hb, hc⟩ := h1.2.2.2.2 (by omega);have hl : ls[i]? = some (ls[i]'(by omega)) := List.getElem?_eq_getElem (by omega);obtain ⟨A', c', h4, h5⟩ := h3 i _ hl;exact ⟨b, off, _, A', c', e, hb, hl, hc i _ h4, h5⟩
end
def xj (w : World) (base : Nat) (A : Option Addr) (n c : Nat) (ls : List (List Int)) (vs : List Value) : Prop :=
 w.ownsRow base 22 1 (.slice A n c) n vs ∧ ls.length = n ∧ ∀ (i : Nat) (l : List Int), ls[i]? = some l → ∃ (A' : Option Addr) (c' : Nat), vs[i]? = some (Value.slice A' l.length c') ∧ Sl w w.heap.size 1 A' l.length c' (zE l) ∧ ∀ b off, A' = some ⟨b, off, none⟩ → b < w.heap.size ∧ some b ≠ (Value.slice A n c).ownBlock
section
variable {w w' : World} {base n c i : Nat} {A : Option Addr} {ls : List (List Int)} {vs : List Value}
theorem xj.nil (w : World) (base : Nat) : xj w base none 0 0 [] [] := ⟨World.ownsRow_nil _ _ _ _, rfl, fun i l h => by simp at h⟩
theorem xj.read (h : xj w base A n c ls vs) : xG w w.heap.size A n c ls := by
 obtain ⟨h1, h2, h3⟩ := h;refine ⟨vs, Sl.of_own h1, h2, fun i l hl => ?_⟩;obtain ⟨A', c', h4, h5, _⟩ := h3 i l hl;exact ⟨A', c', h4, h5⟩
theorem xj.kept (h : xj w base A n c ls vs) {B : Nat} (hb : Below B w w') (hB : w.heap.size ≤ B) : xj w' base A n c ls vs := by
 obtain ⟨h1, h2, h3⟩ := h;have hb' : Below w.heap.size w w' := hb.mono hB;refine ⟨zI h1 hb', h2, fun i l hl => ?_⟩;obtain ⟨A', c', h4, h5, h6⟩ := h3 i l hl;exact ⟨A', c', h4, (h5.below hb' lR).more hb'.size, fun b off e => ⟨Nat.lt_of_lt_of_le (h6 b off e).1 hb'.size, (h6 b off e).2⟩⟩
theorem xj.lt (h : xj w base A n c ls vs) : ∀ g, (Value.slice A n c).ownBlock = some g → base ≤ g ∧ g < w.heap.size := h.1.lt
theorem xj.app (h : xj w base A n c ls vs) {A1 An : Option Addr} {c1 cn : Nat} {l : List Int} (Eb : w'.ownsRow base 22 1 (.slice A1 (n + 1) c1) (n + 1) (vs ++ [.slice An l.length cn])) (hg : w.grownBy w' (Value.slice A n c).ownBlock)
 (FR : (Value.slice A1 (n + 1) c1).ownBlock = (Value.slice A n c).ownBlock ∨ (Value.slice A1 (n + 1) c1).ownBlock = some w.heap.size) (hl : BI w 1 An l.length cn (zE l)) (hlt : ∀ b off, An = some ⟨b, off, none⟩ → b < w.heap.size ∧ some b ≠ (Value.slice A n c).ownBlock) : xj w' base A1 (n + 1) c1 (ls ++ [l]) (vs ++ [.slice An l.length cn]) := by
 obtain ⟨h1, h2, h3⟩ := h;have AA : vs.length = n := by have := h1.1; omega
 have keep : ∀ (A' : Option Addr) (c' : Nat) (l' : List Int), Sl w w.heap.size 1 A' l'.length c' (zE l') → (∀ b off, A' = some ⟨b, off, none⟩ → b < w.heap.size ∧ some b ≠ (Value.slice A n c).ownBlock) → Sl w' w'.heap.size 1 A' l'.length c' (zE l') ∧ ∀ b off, A' = some ⟨b, off, none⟩ → b < w'.heap.size ∧ some b ≠ (Value.slice A1 (n + 1) c1).ownBlock := by
  intro A' c' l' ⟨s1, s2, s3, s4, s5⟩ hn;refine ⟨⟨s1, s2, s3, s4, fun hp => ?_⟩, fun b off e => ⟨Nat.lt_of_lt_of_le (hn b off e).1 hg.size, ?_⟩⟩
  ·obtain ⟨b, off, e, hb, hc⟩ := s5 hp;exact ⟨b, off, e, Nat.lt_of_lt_of_le hb hg.size, fun j u hu => (World.cell?_of_block (hg.block b hb (hn b off e).2)).trans (hc j u hu)⟩
  ·rcases FR with h | h
   ·rw [h]; exact (hn b off e).2
   ·rw [h]; intro e2; injection e2 with e2; have := (hn b off e).1; omega
 refine ⟨Eb, by simp [h2], fun i l' hi => ?_⟩;rw [List.getElem?_append] at hi;split at hi
 ·next hlt' =>
  obtain ⟨A', c', h4, h5, h6⟩ := h3 i l' hi;exact ⟨A', c', by rw [List.getElem?_append_left (by omega)]; exact h4, keep A' c' l' h5 h6⟩
 ·next TV =>
  have hz : i - ls.length = 0 := by
   rcases Nat.eq_zero_or_pos (i - ls.length) with h0 | h0
   ·exact h0
   ·rw [List.getElem?_eq_none (by simp; omega)] at hi; cases hi
  rw [hz] at hi;simp at hi;subst hi;exact ⟨An, cn, by rw [List.getElem?_append_right (by omega), show i - vs.length = 0 by omega]; rfl, keep An cn l hl hlt⟩
end
end Go.Proofs.YtkkobemhbicjgaaGreatDoor
