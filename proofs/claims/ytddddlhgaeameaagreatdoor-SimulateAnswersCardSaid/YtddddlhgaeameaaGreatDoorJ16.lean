import Derived.Test.YtddddlhgaeameaaGreatDoorJ15
set_option maxRecDepth 100000
set_option maxHeartbeats 8000000
namespace Go.Proofs.YtddddlhgaeameaaGreatDoor
open Go.RowKit Tryz
def fN (w : World) (g : Nat) (AV : Int) (i : Nat) (wr : World) : Prop := ∃ (An : Option Addr) (cn : Nat) (ns : List Nd), yG w g AV An i cn ns none 0 0 [] wr ∧ ns.length = i ∧ pB ns
def gY (w : World) (g : Nat) (AV : Int) (k : Nat) (iv : Value) (wr : World) : Prop := ∃ i : Nat, iv = .int .i64 i ∧ i ≤ k ∧ Hid (fN w g AV i wr)
def jj (w : World) (g : Nat) (AV : Int) (An : Option Addr) (k cn : Nat) (ns : List Nd) (lo hi : Nat) (iv : Value) (wr : World) : Prop := ∃ i : Nat, iv = .int .i64 i ∧ lo ≤ i ∧ i ≤ hi ∧ Hid (rl 1 w g AV An k cn ns wr)
theorem yG.nb_rown {w0 W W' : World} {g : Nat} {AV : Int} {An Ad : Option Addr} {nn cn nd cd : Nat} {ns : List Nd} {ds : List Dv} (h : yG w0 g AV An nn cn ns Ad nd cd ds W) (hg : W.grownBy W' (Value.slice An nn cn).ownBlock) : AJ W' (w0.heap.size + 3) 26 #[.slice An nn cn, .slice Ad nd cd] := h.nb.grown hg (fun e => by have := (h.rn.lt _ e.symm).1; omega)
theorem se (i : Nat) (c p : Int) (hc : 0 ≤ c ∧ c ≤ 50) (hp : 0 ≤ p ∧ p ≤ 2) : gF i ⟨Ei (EC (BA ⟨#[78]⟩) i), c, p⟩ := ⟨rfl, hc.1, hc.2, hp.1, hp.2⟩
theorem tp {kind a b : Int} {k : Nat} (hk : 1 ≤ kind ∧ kind ≤ 3) (ha : 0 ≤ a ∧ a < k) (hb : 0 ≤ b ∧ b < k) (Uc : b ≠ a) : xW kind a b k = true := by
 have hj : zV kind = true := by simp [zV]; omega
 simp only [xW, hj];rw [if_neg (by omega), if_neg (by omega), if_neg (by simp)];simp; omega
theorem uR {kind a : Int} {k : Nat} (hk : 4 ≤ kind ∧ kind ≤ 6) (ha : 0 ≤ a ∧ a < k) : xW kind a (-1) k = true := by
 have hj : zV kind = false := by simp [zV]; omega
 simp only [xW, hj];rw [if_neg (by omega), if_neg (by omega), if_pos (by simp)];simp
theorem io {a r k : Int} (ha : 0 ≤ a ∧ a < k) (hr : 0 ≤ r ∧ r < k - 1) : 0 ≤ (a + 1 + r) % k ∧ (a + 1 + r) % k < k ∧ (a + 1 + r) % k ≠ a := by
 rcases Int.lt_or_le (a + 1 + r) k with h | h
 ·rw [Int.emod_eq_of_lt (by omega) h]; omega
 ·have : (a + 1 + r) % k = a + 1 + r - k := by
   rw [← Int.sub_emod_right, Int.emod_eq_of_lt (by omega) (by omega)]
  omega
theorem lp (g : Nat) (nodes AV : Int) (w : World) (hd : zP w g) (hn : 3 ≤ nodes ∧ nodes ≤ 90) (hm : 1 ≤ AV ∧ AV ≤ 90) : Calls prog 10 #[.pointer (some ⟨g, 0, none⟩), .int .i64 nodes, .int .i64 AV] w (lP w g nodes AV) := by
 have hlt := hd.lt;have HD := iD hd; clear hd;have Vj : 3 ≤ nodes := hn.1;have Qw : nodes ≤ 90 := hn.2;have UU : 1 ≤ AV := hm.1;have Ab : AV ≤ 90 := hm.2;clear hn
 go_enter func10, ntmps10
 go_wp2_with fail
 have NF : Hid (yG w g AV none 0 0 [] none 0 0 [] ((((w.alloc (.cells #[.pointer (some ⟨g, 0, none⟩)] 38)).alloc (.cells #[.int .i64 AV] 3)).alloc (.cells #[.slice none 0 0, .slice none 0 0] 26)).alloc (.cells #[.slice none 0 0, .slice none 0 0] 26))) := by
  refine ⟨hlt, (((HD.alloc _).alloc _).alloc _).alloc _, ?_, (((AJ.new w _ _).alloc _).alloc _).alloc _, ?_, ?_, ?_, World.ownsRow_nil _ _ _ _, World.ownsRow_nil _ _ _ _, .inl rfl⟩
  ·exact zI (((((Below.refl _ _).alloc lR _).alloc (by simp) _).alloc (by simp; omega) _).alloc (by simp; omega) _) _
  ·have := AJ.new (w.alloc (.cells #[.pointer (some ⟨g, 0, none⟩)] 38)) 3 #[.int .i64 AV];rw [World.size_alloc] at this;exact (this.alloc _).alloc _
  ·have := AJ.new ((w.alloc (.cells #[.pointer (some ⟨g, 0, none⟩)] 38)).alloc (.cells #[.int .i64 AV] 3)) 26 #[.slice none 0 0, .slice none 0 0];simp only [World.size_alloc] at this;exact this.alloc _
  ·have := AJ.new (((w.alloc (.cells #[.pointer (some ⟨g, 0, none⟩)] 38)).alloc (.cells #[.int .i64 AV] 3)).alloc (.cells #[.slice none 0 0, .slice none 0 0] 26)) 26 #[.slice none 0 0, .slice none 0 0];simp only [World.size_alloc] at this;exact this
 rw [show w.heap.size + 1 + 1 + 1 = w.heap.size + 3 from rfl, show w.heap.size + 1 + 1 = w.heap.size + 2 from rfl];generalize World.alloc (World.alloc (World.alloc (World.alloc _ _) _) _) _ = wa at *;refine (zS g (nodes - 1) wa NF.deck (by omega)).mono ?_;rintro e w1 ⟨r, rfl, AE, Km, Po, Ih, Cc, IK⟩;have PG : r < nodes - 1 := Po (by omega);have BD := iD (NF.next Ih Cc);clear Km Po Ih Cc IK NF HD wa;obtain ⟨q, rfl⟩ := Int.eq_ofNat_of_zero_le AE
 go_wp2_with fail
 rw [show (2 : Int) + (q : Int) = ((q + 2 : Nat) : Int) by omega];obtain ⟨k, hk⟩ := eX (q + 2);rw [← hk];have AU : 2 ≤ k := by omega
 have IM : (k : Int) ≤ nodes := by omega
 have AQ : k ≤ 90 := by omega
 clear hk AE PG
 go_loopw [9] (gY w g AV k) (fun iv _ => k - (intOf iv).toNat)
 case atStart => exact ⟨0, rfl, Nat.zero_le _, none, 0, [], BD, rfl, fun i x h => by simp at h⟩
 case round =>
  clear BD w1;obtain ⟨i, rfl, hi, Bq⟩ := hrel;obtain ⟨An, cn, ns, hst, DJ, AH⟩ := Bq.out;have Ar := iD hst; have Ch := iD DJ; have Dm := iD AH;clear hst DJ AH Bq;have hsz := Ar.size;by_cases MN : i < k
  ·go_wp2_with fail
   refine (wj ⟨#[78]⟩ i wr (by decide) (by omega)).mono ?_;rintro e wa ⟨rfl, PS⟩;have TJ := iD (Ar.later PS);have AO := PS.size;clear PS;go_upto_region 7 with (fail);obtain ⟨b9, JR⟩ := eX wa.heap.size;have AL := iD (AJ.new wa 73 #[.string (Ei (EC (BA ⟨#[78]⟩) i)), .int .i64 0, .int .i64 0]);have BB := iD (TJ.alloc (.cells #[.string (Ei (EC (BA ⟨#[78]⟩) i)), .int .i64 0, .int .i64 0] 73));have Rc : Hid (∀ q, (Value.slice An i cn).ownBlock = some q → q ≠ b9) := fun q e => by have := (TJ.rn.lt q e).2; omega
   have XV : Hid (∀ q, (Value.slice none 0 0).ownBlock = some q → q ≠ b9) := fun q e => by cases e
   have BX : w.heap.size + 4 ≤ b9 := by omega
   generalize World.alloc _ _ = w1 at *;rw [← JR] at AL ⊢;clear JR AO TJ;have kp := BB.pb.c0
   go_wp2_with fail
   clear kp;refine (wT g 2 w1 BB.deck (by decide)).mono ?_;rintro e w2 ⟨r, rfl, BC, Am, BS⟩;have EX := iD (BB.next BC Am);have AY := iD (AL.grown Am (fun e => by injection e with e; omega));clear BC Am BS BB AL;rcases r with _ | _
   ·skip
    have kp := EX.pb.c0
    go_wp2_with fail
    clear kp;refine (wT g 8 w2 EX.deck (by decide)).mono ?_;rintro e w5 ⟨r, rfl, BC, Am, BS⟩;have EW := iD (EX.next BC Am);have Cj := iD (AY.grown Am (fun e => by injection e with e; omega));clear BC Am BS;rcases r with _ | _
    ·skip
     have kd := EW.nb.c0;obtain ⟨e0, e1, e2⟩ := Cj.d3;have Pi := EW.size
     go_wp2_with (at_builtin; go_must (refine zL rfl (.tmp 45) (.tmp 47) rfl sh (by rfl) (EW.rn.alloc _) (by rfl) (Sl.newest (n := 1) (by rfl) (by rfl) (by decide)) (by simp [Value.oneCell']) (by omega) (by omega) (by simp; omega) ?_; intro A' cap' w8 EO Es Gw; have CP := (EW.alloc _).nb_rown Es; have IC := iD ((EW.alloc _).node (x := ⟨Ei (EC (BA ⟨#[78]⟩) i), 0, 0⟩) EO Es Gw); have kn : w8.cell? ⟨w.heap.size + 3, 0, none⟩ = some (.slice An i cn) := CP.cell 0; have fn := CP.frozen 0; clear EO Es Gw CP))
     go_roundw
     case rel => exact ⟨i + 1, by go_num, by omega, A', cap', _, IC, by simp [Ch.out], Dm.snoc (by rw [Ch.out]; exact se _ _ _ ⟨by omega, by omega⟩ ⟨by omega, by omega⟩)⟩
     case measure => simp [intOf]; omega
    ·have kp := EW.pb.c0
     go_wp2_with fail
     clear kp;refine (zS g 2 w5 EW.deck (by decide)).mono ?_;rintro e w6 ⟨z, rfl, NZ, Fj, GD, BC, Am, BS⟩;have JO : z < 2 := GD (by decide);have TK := iD (EW.next BC Am);have Dh := iD (Cj.grown Am (fun e => by injection e with e; omega));clear Fj GD BC Am BS;have c4 := Dh.c2;have f4 := Dh.frozen 2;have Hf := iD (TK.store (u := .int .i64 (1 + z)) (j := 2) BX Rc XV);have Eg := iD (Dh.set 2 (.int .i64 (1 + z)));go_upto_region 11 with (fail);clear c4 f4;generalize World.setCell _ _ _ = w7 at *;have kd := Hf.nb.c0;obtain ⟨e0, e1, e2⟩ := Eg.d3;have Pi := Hf.size
     go_wp2_with (at_builtin; go_must (refine zL rfl (.tmp 45) (.tmp 47) rfl sh (by rfl) (Hf.rn.alloc _) (by rfl) (Sl.newest (n := 1) (by rfl) (by rfl) (by decide)) (by simp [Value.oneCell']) (by omega) (by omega) (by simp; omega) ?_; intro A' cap' w8 EO Es Gw; have CP := (Hf.alloc _).nb_rown Es; have IC := iD ((Hf.alloc _).node (x := ⟨Ei (EC (BA ⟨#[78]⟩) i), 0, (1 + z)⟩) EO Es Gw); have kn : w8.cell? ⟨w.heap.size + 3, 0, none⟩ = some (.slice An i cn) := CP.cell 0; have fn := CP.frozen 0; clear EO Es Gw CP))
     go_roundw
     case rel => exact ⟨i + 1, by go_num, by omega, A', cap', _, IC, by simp [Ch.out], Dm.snoc (by rw [Ch.out]; exact se _ _ _ ⟨by omega, by omega⟩ ⟨by omega, by omega⟩)⟩
     case measure => simp [intOf]; omega
   ·have kp := EX.pb.c0
    go_wp2_with fail
    clear kp;refine (zS g 50 w2 EX.deck (by decide)).mono ?_;rintro e w3 ⟨y, rfl, AZ, AK, AB, BC, Am, BS⟩;have AX : y < 50 := AB (by decide);have FX := iD (EX.next BC Am);have CS := iD (AY.grown Am (fun e => by injection e with e; omega));clear AK AB BC Am BS;have c4 := CS.c1;have f4 := CS.frozen 1;have Jr := iD (FX.store (u := .int .i64 (1 + y)) (j := 1) BX Rc XV);have Bu := iD (CS.set 1 (.int .i64 (1 + y)));go_upto_region 9 with (fail);clear c4 f4;generalize World.setCell _ _ _ = w4 at *;have kp := Jr.pb.c0
    go_wp2_with fail
    clear kp;refine (wT g 8 w4 Jr.deck (by decide)).mono ?_;rintro e w5 ⟨r, rfl, BC, Am, BS⟩;have EW := iD (Jr.next BC Am);have Cj := iD (Bu.grown Am (fun e => by injection e with e; omega));clear BC Am BS;rcases r with _ | _
    ·skip
     have kd := EW.nb.c0;obtain ⟨e0, e1, e2⟩ := Cj.d3;have Pi := EW.size
     go_wp2_with (at_builtin; go_must (refine zL rfl (.tmp 45) (.tmp 47) rfl sh (by rfl) (EW.rn.alloc _) (by rfl) (Sl.newest (n := 1) (by rfl) (by rfl) (by decide)) (by simp [Value.oneCell']) (by omega) (by omega) (by simp; omega) ?_; intro A' cap' w8 EO Es Gw; have CP := (EW.alloc _).nb_rown Es; have IC := iD ((EW.alloc _).node (x := ⟨Ei (EC (BA ⟨#[78]⟩) i), (1 + y), 0⟩) EO Es Gw); have kn : w8.cell? ⟨w.heap.size + 3, 0, none⟩ = some (.slice An i cn) := CP.cell 0; have fn := CP.frozen 0; clear EO Es Gw CP))
     go_roundw
     case rel => exact ⟨i + 1, by go_num, by omega, A', cap', _, IC, by simp [Ch.out], Dm.snoc (by rw [Ch.out]; exact se _ _ _ ⟨by omega, by omega⟩ ⟨by omega, by omega⟩)⟩
     case measure => simp [intOf]; omega
    ·have kp := EW.pb.c0
     go_wp2_with fail
     clear kp;refine (zS g 2 w5 EW.deck (by decide)).mono ?_;rintro e w6 ⟨z, rfl, NZ, Fj, GD, BC, Am, BS⟩;have JO : z < 2 := GD (by decide);have TK := iD (EW.next BC Am);have Dh := iD (Cj.grown Am (fun e => by injection e with e; omega));clear Fj GD BC Am BS;have c4 := Dh.c2;have f4 := Dh.frozen 2;have Hf := iD (TK.store (u := .int .i64 (1 + z)) (j := 2) BX Rc XV);have Eg := iD (Dh.set 2 (.int .i64 (1 + z)));go_upto_region 11 with (fail);clear c4 f4;generalize World.setCell _ _ _ = w7 at *;have kd := Hf.nb.c0;obtain ⟨e0, e1, e2⟩ := Eg.d3;have Pi := Hf.size
     go_wp2_with (at_builtin; go_must (refine zL rfl (.tmp 45) (.tmp 47) rfl sh (by rfl) (Hf.rn.alloc _) (by rfl) (Sl.newest (n := 1) (by rfl) (by rfl) (by decide)) (by simp [Value.oneCell']) (by omega) (by omega) (by simp; omega) ?_; intro A' cap' w8 EO Es Gw; have CP := (Hf.alloc _).nb_rown Es; have IC := iD ((Hf.alloc _).node (x := ⟨Ei (EC (BA ⟨#[78]⟩) i), (1 + y), (1 + z)⟩) EO Es Gw); have kn : w8.cell? ⟨w.heap.size + 3, 0, none⟩ = some (.slice An i cn) := CP.cell 0; have fn := CP.frozen 0; clear EO Es Gw CP))
     go_roundw
     case rel => exact ⟨i + 1, by go_num, by omega, A', cap', _, IC, by simp [Ch.out], Dm.snoc (by rw [Ch.out]; exact se _ _ _ ⟨by omega, by omega⟩ ⟨by omega, by omega⟩)⟩
     case measure => simp [intOf]; omega
  ·obtain rfl : i = k := by omega
   have Qx : ∀ (fn : Fn) (first cap : Array Value) (w : World), (Instr.makeFunc fn first cap).run prog w = .ok (.func fn first cap) w := fun _ _ _ _ => rfl
   have JZ : Hid (rl 0 w g AV An i cn ns wr) := ⟨none, 0, 0, [], Ar, by omega, Nat.le_refl _, rfl, fun j x h => by simp at h⟩;clear Ar hsz MN
   go_wp2_with fail
   refine (vi 5 0 (-1) JZ ⟨by omega, by omega⟩ hm (uR ⟨by omega, by omega⟩ ⟨by omega, by omega⟩)).mono ?_;rintro e w1 ⟨rfl, XR⟩;clear Qx
   go_wp2_with fail
   go_loopw [12] (jj w g AV An i cn ns 1 i) (fun iv _ => i - (intOf iv).toNat)
   case atStart => exact ⟨1, rfl, by omega, by omega, XR⟩
   case round =>
    clear XR JZ;obtain ⟨j, rfl, Ae, Ac, Ib⟩ := hrel;by_cases Fq : j < i
    ·skip
     have kp := Ib.pc
     go_wp2_with fail
     clear kp;refine (wT g 3 wr Ib.deck (by decide)).mono ?_;rintro e wx ⟨r, rfl, BC, Am, BS⟩;have DI := iD (Ib.next BC Am);clear BC Am BS;rcases r with _ | _
     ·skip
      have kp := DI.pc
      go_wp2_with fail
      clear kp;refine (zS g 3 wx DI.deck (by omega)).mono ?_;rintro e wy ⟨r, rfl, r0, r1, r2, BC, Am, BS⟩;have r3 : r < 3 := r2 (by omega);have Tn := iD (DI.next BC Am);clear r1 r2 BC Am BS
      go_wp2_with fail
      refine (vi (1 + r) ((j : Int) - 1) j Tn ⟨by omega, by omega⟩ hm (tp ⟨by omega, by omega⟩ ⟨by omega, by omega⟩ ⟨by omega, by omega⟩ (by omega))).mono ?_;rintro e wz ⟨rfl, Tm⟩
      go_wp2_with fail
      go_roundw
      case rel => exact ⟨j + 1, by go_num, by omega, by omega, Tm⟩
      case measure => simp [intOf]; omega
     ·skip
      have kp := DI.pc
      go_wp2_with fail
      clear kp;refine (zS g j wx DI.deck (by omega)).mono ?_;rintro e wt ⟨a, rfl, a0, a1, a2, BC, Am, BS⟩;have a3 : a < j := a2 (by omega);have Tp := iD (DI.next BC Am);clear a1 a2 BC Am BS;have kp := Tp.pc
      go_wp2_with fail
      clear kp;refine (zS g 3 wt Tp.deck (by omega)).mono ?_;rintro e wy ⟨r, rfl, r0, r1, r2, BC, Am, BS⟩;have r3 : r < 3 := r2 (by omega);have Tn := iD (Tp.next BC Am);clear r1 r2 BC Am BS
      go_wp2_with fail
      refine (vi (1 + r) a j Tn ⟨by omega, by omega⟩ hm (tp ⟨by omega, by omega⟩ ⟨by omega, by omega⟩ ⟨by omega, by omega⟩ (by omega))).mono ?_;rintro e wz ⟨rfl, Tm⟩
      go_wp2_with fail
      go_roundw
      case rel => exact ⟨j + 1, by go_num, by omega, by omega, Tm⟩
      case measure => simp [intOf]; omega
    ·obtain rfl : j = i := by omega
     have KJ : decide (j < j) = false := by simp
     have kp := Ib.pc
     go_wp2_with fail
     clear kp;refine (zS g 4 wr Ib.deck (by omega)).mono ?_;rintro e wx ⟨r, rfl, r0, r1, r2, BC, Am, BS⟩;have r3 : r < 4 := r2 (by omega);have DI := iD (Ib.next BC Am);clear r1 r2 BC Am BS;clear KJ;obtain ⟨q, rfl⟩ := Int.eq_ofNat_of_zero_le r0
     go_wp2_with fail
     go_loopw [14] (jj w g AV An j cn ns 0 3) (fun iv _ => (intOf iv).toNat)
     case atStart => exact ⟨q, rfl, by omega, by omega, DI⟩
     case round =>
      clear DI Ib r0 r3;obtain ⟨i, rfl, Sa, AW, Ib⟩ := hrel;by_cases h0 : 0 < i
      ·skip
       have kp := Ib.pc
       go_wp2_with fail
       clear kp;refine (zS g 4 wr Ib.deck (by omega)).mono ?_;rintro e wx ⟨r, rfl, r0, r1, r2, BC, Am, BS⟩;have r3 : r < 4 := r2 (by omega);have DI := iD (Ib.next BC Am);clear r1 r2 BC Am BS;rcases (show r = 0 ∨ r = 1 ∨ r = 2 ∨ r = 3 by omega) with rfl | rfl | rfl | rfl
       ·skip
        have kp := DI.pc
        go_wp2_with fail
        clear kp;refine (zS g j wx DI.deck (by omega)).mono ?_;rintro e w3 ⟨a, rfl, a0, a1, a2, BC, Am, BS⟩;have a3 : a < j := a2 (by omega);have JK := iD (DI.next BC Am);clear a1 a2 BC Am BS;have kp := JK.pc
        go_wp2_with fail
        clear kp;refine (zS g ((j : Int) - 1) w3 JK.deck (by omega)).mono ?_;rintro e w4 ⟨c, rfl, c0, c1, c2, BC, Am, BS⟩;have c3 : c < ((j : Int) - 1) := c2 (by omega);have Tq := iD (JK.next BC Am);clear c1 c2 BC Am BS;have AP := io ⟨a0, a3⟩ ⟨c0, c3⟩;have kp := Tq.pc
        go_wp2_with fail
        clear kp;refine (zS g 3 w4 Tq.deck (by omega)).mono ?_;rintro e w5 ⟨r, rfl, r0, r1, r2, BC, Am, BS⟩;have r3 : r < 3 := r2 (by omega);have AA := iD (Tq.next BC Am);clear r1 r2 BC Am BS
        go_wp2_with fail
        refine (vi (1 + r) a ((a + 1 + c) % j) AA ⟨by omega, by omega⟩ hm (tp ⟨by omega, by omega⟩ ⟨by omega, by omega⟩ ⟨by omega, by omega⟩ (by omega))).mono ?_;rintro e w6 ⟨rfl, LX⟩
        go_wp2_with fail
        go_roundw
        case rel => exact ⟨i - 1, by rw [show ((i - 1 : Nat) : Int) = (i : Int) - 1 by omega], by omega, by omega, LX⟩
        case measure => simp [intOf]; omega
       ·skip
        have kp := DI.pc
        go_wp2_with fail
        clear kp;refine (zS g j wx DI.deck (by omega)).mono ?_;rintro e w3 ⟨a, rfl, a0, a1, a2, BC, Am, BS⟩;have a3 : a < j := a2 (by omega);have JK := iD (DI.next BC Am);clear a1 a2 BC Am BS
        go_wp2_with fail
        refine (vi 5 a (-1) JK ⟨by omega, by omega⟩ hm (uR ⟨by omega, by omega⟩ ⟨by omega, by omega⟩)).mono ?_;rintro e w6 ⟨rfl, LX⟩
        go_wp2_with fail
        go_roundw
        case rel => exact ⟨i - 1, by rw [show ((i - 1 : Nat) : Int) = (i : Int) - 1 by omega], by omega, by omega, LX⟩
        case measure => simp [intOf]; omega
       ·skip
        have kp := DI.pc
        go_wp2_with fail
        clear kp;refine (zS g j wx DI.deck (by omega)).mono ?_;rintro e w3 ⟨a, rfl, a0, a1, a2, BC, Am, BS⟩;have a3 : a < j := a2 (by omega);have JK := iD (DI.next BC Am);clear a1 a2 BC Am BS
        go_wp2_with fail
        refine (vi 6 a (-1) JK ⟨by omega, by omega⟩ hm (uR ⟨by omega, by omega⟩ ⟨by omega, by omega⟩)).mono ?_;rintro e w6 ⟨rfl, LX⟩
        go_wp2_with fail
        go_roundw
        case rel => exact ⟨i - 1, by rw [show ((i - 1 : Nat) : Int) = (i : Int) - 1 by omega], by omega, by omega, LX⟩
        case measure => simp [intOf]; omega
       ·skip
        go_wp2_with fail
        go_roundw
        case rel => exact ⟨i - 1, by rw [show ((i - 1 : Nat) : Int) = (i : Int) - 1 by omega], by omega, by omega, DI⟩
        case measure => simp [intOf]; omega
      ·obtain rfl : i = 0 := by omega
       have kp := Ib.pc
       go_wp2_with fail
       clear kp;refine (zS g 3 wr Ib.deck (by omega)).mono ?_;rintro e wx ⟨r, rfl, r0, r1, r2, BC, Am, BS⟩;have r3 : r < 3 := r2 (by omega);have DI := iD (Ib.next BC Am);clear r1 r2 BC Am BS;obtain ⟨q, rfl⟩ := Int.eq_ofNat_of_zero_le r0
       go_wp2_with fail
       rw [show (1 : Int) + (q : Int) = ((q + 1 : Nat) : Int) by omega];obtain ⟨m, AG⟩ := eX (q + 1);rw [← AG];have Aa : m ≤ 3 := by omega
       clear AG
       go_loopw [17] (jj w g AV An j cn ns 0 3) (fun iv _ => (intOf iv).toNat)
       case atStart => exact ⟨m, rfl, by omega, by omega, DI⟩
       case round =>
        clear DI Ib r0 r3;obtain ⟨i, rfl, Sa, AW, Ib⟩ := hrel;by_cases h0 : 0 < i
        ·skip
         have kp := Ib.pc
         go_wp2_with fail
         clear kp;refine (zS g j wr Ib.deck (by omega)).mono ?_;rintro e w3 ⟨a, rfl, a0, a1, a2, BC, Am, BS⟩;have a3 : a < j := a2 (by omega);have JK := iD (Ib.next BC Am);clear a1 a2 BC Am BS
         go_wp2_with fail
         refine (vi 4 a (-1) JK ⟨by omega, by omega⟩ hm (uR ⟨by omega, by omega⟩ ⟨by omega, by omega⟩)).mono ?_;rintro e w6 ⟨rfl, LX⟩
         go_wp2_with fail
         go_roundw
         case rel => exact ⟨i - 1, by rw [show ((i - 1 : Nat) : Int) = (i : Int) - 1 by omega], by omega, by omega, LX⟩
         case measure => simp [intOf]; omega
        ·obtain rfl : i = 0 := by omega
         obtain ⟨Ad, nd, cd, ds, hst, h2, h3, h4, h5⟩ := Ib.out;have HE := iD (mC (nodes := nodes) Ad nd cd ds hst ⟨h2, h3, h4, h5⟩ ⟨Ch, Dm⟩ ⟨AU, IM⟩ (.slice An j cn) (.slice Ad nd cd));obtain ⟨c0, c1⟩ := hst.nb.d2;obtain ⟨d0, d1⟩ := hst.rb.d2;obtain ⟨f0, f1⟩ := hst.rb.e2;clear hst h2 h3 h4 h5 Ib Ch Dm
         go_wp2_with fail
         exact bodyPost_ret (v := .agg #[.slice An j cn, .slice Ad nd cd]) (by simp [results, results10, go_sem, d0, d1]) rfl HE.out
end Go.Proofs.YtddddlhgaeameaaGreatDoor
