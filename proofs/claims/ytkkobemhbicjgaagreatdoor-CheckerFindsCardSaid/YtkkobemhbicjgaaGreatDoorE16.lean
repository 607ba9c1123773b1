import Derived.Test.YtkkobemhbicjgaaGreatDoorE15
set_option maxRecDepth 100000
set_option maxHeartbeats 8000000
namespace Go.Proofs.YtkkobemhbicjgaaGreatDoor
open Go.RowKit
def eG (w : World) (g : Nat) (dmax : Int) (i : Nat) (wr : World) : Prop := ∃ (An : Option Addr) (cn : Nat) (ns : List Nd), yA w g dmax An i cn ns none 0 0 [] wr ∧ ns.length = i ∧ rp ns
def fU (w : World) (g : Nat) (dmax : Int) (k : Nat) (iv : Value) (wr : World) : Prop := ∃ i : Nat, iv = .int .i64 i ∧ i ≤ k ∧ Hid (eG w g dmax i wr)
def jq (w : World) (g : Nat) (dmax : Int) (An : Option Addr) (k cn : Nat) (ns : List Nd) (lo hi : Nat) (iv : Value) (wr : World) : Prop := ∃ i : Nat, iv = .int .i64 i ∧ lo ≤ i ∧ i ≤ hi ∧ Hid (su 1 w g dmax An k cn ns wr)
theorem yA.nb_rown {w0 W W' : World} {g : Nat} {dmax : Int} {An Ad : Option Addr} {nn cn nd cd : Nat} {ns : List Nd} {ds : List Dv} (h : yA w0 g dmax An nn cn ns Ad nd cd ds W) (hg : W.grownBy W' (Value.slice An nn cn).ownBlock) : Blk W' (w0.heap.size + 3) 30 #[.slice An nn cn, .slice Ad nd cd] := h.nb.grown hg (fun e => by have := (h.rn.lt _ e.symm).1; omega)
theorem td (i : Nat) (c p : Int) (hc : 0 ≤ c ∧ c ≤ 50) (hp : 0 ≤ p ∧ p ≤ 2) : gn i ⟨mkS (nm2 (toL ⟨#[78]⟩) i), c, p⟩ := ⟨rfl, hc.1, hc.2, hp.1, hp.2⟩
theorem tC {kind a b : Int} {k : Nat} (hk : 1 ≤ kind ∧ kind ≤ 3) (ha : 0 ≤ a ∧ a < k) (hb : 0 ≤ b ∧ b < k) (hab : b ≠ a) : wI kind a b k = true := by
 have hj : zc kind = true := by simp [zc]; omega
 simp only [wI, hj]
 rw [if_neg (by omega), if_neg (by omega), if_neg (by simp)]
 simp; omega
theorem vm {kind a : Int} {k : Nat} (hk : 4 ≤ kind ∧ kind ≤ 6) (ha : 0 ≤ a ∧ a < k) : wI kind a (-1) k = true := by
 have hj : zc kind = false := by simp [zc]; omega
 simp only [wI, hj]
 rw [if_neg (by omega), if_neg (by omega), if_pos (by simp)]
 simp
theorem gT {a r k : Int} (ha : 0 ≤ a ∧ a < k) (hr : 0 ≤ r ∧ r < k - 1) : 0 ≤ (a + 1 + r) % k ∧ (a + 1 + r) % k < k ∧ (a + 1 + r) % k ≠ a := by
 rcases Int.lt_or_le (a + 1 + r) k with h | h
 ·rw [Int.emod_eq_of_lt (by omega) h]; omega
 ·have : (a + 1 + r) % k = a + 1 + r - k := by
   rw [← Int.sub_emod_right, Int.emod_eq_of_lt (by omega) (by omega)]
  omega
theorem lL (g : Nat) (nodes dmax : Int) (w : World) (hd : zP w g) (hn : 3 ≤ nodes ∧ nodes ≤ 90) (hm : 1 ≤ dmax ∧ dmax ≤ 90) : Calls Tryz.prog 13 #[.pointer (some ⟨g, 0, none⟩), .int .i64 nodes, .int .i64 dmax] w (me w g nodes dmax) := by
 have hlt := hd.lt
 have HD := iD hd; clear hd
 have hn1 : 3 ≤ nodes := hn.1
 have hn2 : nodes ≤ 90 := hn.2
 have hm1 : 1 ≤ dmax := hm.1
 have hm2 : dmax ≤ 90 := hm.2
 clear hn
 go_enter Tryz.func13, Tryz.ntmps13
 go_wp2_with fail
 have HS0 : Hid (yA w g dmax none 0 0 [] none 0 0 [] ((((w.alloc (.cells #[.pointer (some ⟨g, 0, none⟩)] 25)).alloc (.cells #[.int .i64 dmax] 3)).alloc (.cells #[.slice none 0 0, .slice none 0 0] 30)).alloc (.cells #[.slice none 0 0, .slice none 0 0] 30))) := by
  refine ⟨hlt, (((HD.out.alloc _).alloc _).alloc _).alloc _, ?_, (((Blk.new w _ _).alloc _).alloc _).alloc _, ?_, ?_, ?_, World.ownsRow_nil _ _ _ _, World.ownsRow_nil _ _ _ _, .inl rfl⟩
  ·exact zL (((((Below.refl _ _).alloc lR _).alloc (by simp) _).alloc (by simp; omega) _).alloc (by simp; omega) _) _
  ·have := Blk.new (w.alloc (.cells #[.pointer (some ⟨g, 0, none⟩)] 25)) 3 #[.int .i64 dmax]
   rw [World.size_alloc] at this
   exact (this.alloc _).alloc _
  ·have := Blk.new ((w.alloc (.cells #[.pointer (some ⟨g, 0, none⟩)] 25)).alloc (.cells #[.int .i64 dmax] 3)) 30 #[.slice none 0 0, .slice none 0 0]
   simp only [World.size_alloc] at this
   exact this.alloc _
  ·have := Blk.new (((w.alloc (.cells #[.pointer (some ⟨g, 0, none⟩)] 25)).alloc (.cells #[.int .i64 dmax] 3)).alloc (.cells #[.slice none 0 0, .slice none 0 0] 30)) 30 #[.slice none 0 0, .slice none 0 0]
   simp only [World.size_alloc] at this
   exact this
 rw [show w.heap.size + 1 + 1 + 1 = w.heap.size + 3 from rfl, show w.heap.size + 1 + 1 = w.heap.size + 2 from rfl]
 generalize World.alloc (World.alloc (World.alloc (World.alloc _ _) _) _) _ = wa at *
 refine (zS g (nodes - 1) wa HS0.out.deck (by omega)).mono ?_
 rintro e w1 ⟨r, rfl, hr0, hr1, hr2, hd2, hg2, hs2⟩
 have hr3 : r < nodes - 1 := hr2.out (by omega)
 have HS1 := iD (HS0.out.next hd2.out hg2.out)
 clear hr1 hr2 hd2 hg2 hs2 HS0 HD wa
 obtain ⟨q, rfl⟩ := Int.eq_ofNat_of_zero_le hr0
 go_wp2_with fail
 rw [show (2 : Int) + (q : Int) = ((q + 2 : Nat) : Int) by omega]
 obtain ⟨k, hk⟩ : ∃ k, k = q + 2 := ⟨_, rfl⟩
 rw [← hk]
 have hk2 : 2 ≤ k := by omega
 have hkn : (k : Int) ≤ nodes := by omega
 have hk90 : k ≤ 90 := by omega
 clear hk hr0 hr3
 go_loopw [9] (fU w g dmax k) (fun iv _ => k - (intOf iv).toNat)
 case atStart => exact ⟨0, rfl, Nat.zero_le _, none, 0, [], HS1.out, rfl, fun i x h => by simp at h⟩
 case round =>
  clear HS1 w1
  obtain ⟨i, rfl, hi, hnn⟩ := hrel
  obtain ⟨An, cn, ns, hst, hln, hmn⟩ := hnn.out
  have HST := iD hst; have HLN := iD hln; have HMN := iD hmn
  clear hst hln hmn hnn
  have hsz := HST.out.size
  by_cases hlk : i < k
  ·go_wp2_with fail
   refine (xq ⟨#[78]⟩ i wr (by decide) (by omega)).mono ?_
   rintro e wa ⟨rfl, hba⟩
   have HSTa := iD (HST.out.later hba)
   have hsa := hba.size
   clear hba
   go_upto_region 7 with (fail)
   obtain ⟨b9, hb9⟩ : ∃ b9, b9 = wa.heap.size := ⟨_, rfl⟩
   have HB1 := iD (Blk.new wa 85 #[.string (mkS (nm2 (toL ⟨#[78]⟩) i)), .int .i64 0, .int .i64 0])
   have HST1 := iD (HSTa.out.alloc (.cells #[.string (mkS (nm2 (toL ⟨#[78]⟩) i)), .int .i64 0, .int .i64 0] 85))
   have HN9 : Hid (∀ q, (Value.slice An i cn).ownBlock = some q → q ≠ b9) := fun q e => by have := (HSTa.out.rn.lt q e).2; omega
   have HD9 : Hid (∀ q, (Value.slice none 0 0).ownBlock = some q → q ≠ b9) := fun q e => by cases e
   have hb4 : w.heap.size + 4 ≤ b9 := by omega
   generalize World.alloc _ _ = w1 at *
   rw [← hb9] at HB1 ⊢
   clear hb9 hsa HSTa
   have kp := HST1.out.pb.c0
   go_wp2_with fail
   clear kp
   refine (xk g 2 w1 HST1.out.deck (by decide)).mono ?_
   rintro e w2 ⟨r, rfl, hd1, hg1, hs1⟩
   have HST2 := iD (HST1.out.next hd1.out hg1.out)
   have HB2 := iD (HB1.out.grown hg1.out (fun e => by injection e with e; omega))
   clear hd1 hg1 hs1 HST1 HB1
   rcases r with _ | _
   ·skip
    have kp := HST2.out.pb.c0
    go_wp2_with fail
    clear kp
    refine (xk g 8 w2 HST2.out.deck (by decide)).mono ?_
    rintro e w5 ⟨r, rfl, hd1, hg1, hs1⟩
    have HST5 := iD (HST2.out.next hd1.out hg1.out)
    have HB5 := iD (HB2.out.grown hg1.out (fun e => by injection e with e; omega))
    clear hd1 hg1 hs1
    rcases r with _ | _
    ·skip
     have kd := HST5.out.nb.c0
     have e0 := HB5.out.c0
     have e1 := HB5.out.c1
     have e2 := HB5.out.c2
     have hz4 := HST5.out.size
     go_wp2_with (at_builtin; go_must (refine zR rfl (.tmp 45) (.tmp 47) rfl tl (by rfl) (HST5.out.rn.alloc _) (by rfl) (Sl.newest (n := 1) (by rfl) (by rfl) (by decide)) (by simp [Value.oneCell']) (by omega) (by omega) (by simp; omega) ?_; intro A' cap' w8 hown8 hgr8 hat8; have hnb := (HST5.out.alloc _).nb_rown hgr8; have HN8 := iD ((HST5.out.alloc _).node (x := ⟨mkS (nm2 (toL ⟨#[78]⟩) i), 0, 0⟩) hown8 hgr8 hat8); have kn : w8.cell? ⟨w.heap.size + 3, 0, none⟩ = some (.slice An i cn) := hnb.cell 0; have fn := hnb.frozen 0; clear hown8 hgr8 hat8 hnb))
     go_roundw
     case rel => exact ⟨i + 1, by go_num, by omega, A', cap', _, HN8.out, by simp [HLN.out], HMN.out.snoc (by rw [HLN.out]; exact td _ _ _ ⟨by omega, by omega⟩ ⟨by omega, by omega⟩)⟩
     case measure => simp [intOf]; omega
    ·have kp := HST5.out.pb.c0
     go_wp2_with fail
     clear kp
     refine (zS g 2 w5 HST5.out.deck (by decide)).mono ?_
     rintro e w6 ⟨z, rfl, hz0, hz1, hz2, hd1, hg1, hs1⟩
     have hz3 : z < 2 := hz2.out (by decide)
     have HST6 := iD (HST5.out.next hd1.out hg1.out)
     have HB6 := iD (HB5.out.grown hg1.out (fun e => by injection e with e; omega))
     clear hz1 hz2 hd1 hg1 hs1
     have c4 := HB6.out.c2
     have f4 := HB6.out.frozen 2
     have HST7 := iD (HST6.out.store (u := .int .i64 (1 + z)) (j := 2) hb4 HN9.out HD9.out)
     have HB7 := iD (HB6.out.set 2 (.int .i64 (1 + z)))
     go_upto_region 11 with (fail)
     clear c4 f4
     generalize World.setCell _ _ _ = w7 at *
     have kd := HST7.out.nb.c0
     have e0 := HB7.out.c0
     have e1 := HB7.out.c1
     have e2 := HB7.out.c2
     have hz4 := HST7.out.size
     go_wp2_with (at_builtin; go_must (refine zR rfl (.tmp 45) (.tmp 47) rfl tl (by rfl) (HST7.out.rn.alloc _) (by rfl) (Sl.newest (n := 1) (by rfl) (by rfl) (by decide)) (by simp [Value.oneCell']) (by omega) (by omega) (by simp; omega) ?_; intro A' cap' w8 hown8 hgr8 hat8; have hnb := (HST7.out.alloc _).nb_rown hgr8; have HN8 := iD ((HST7.out.alloc _).node (x := ⟨mkS (nm2 (toL ⟨#[78]⟩) i), 0, (1 + z)⟩) hown8 hgr8 hat8); have kn : w8.cell? ⟨w.heap.size + 3, 0, none⟩ = some (.slice An i cn) := hnb.cell 0; have fn := hnb.frozen 0; clear hown8 hgr8 hat8 hnb))
     go_roundw
     case rel => exact ⟨i + 1, by go_num, by omega, A', cap', _, HN8.out, by simp [HLN.out], HMN.out.snoc (by rw [HLN.out]; exact td _ _ _ ⟨by omega, by omega⟩ ⟨by omega, by omega⟩)⟩
     case measure => simp [intOf]; omega
   ·have kp := HST2.out.pb.c0
    go_wp2_with fail
    clear kp
    refine (zS g 50 w2 HST2.out.deck (by decide)).mono ?_
    rintro e w3 ⟨y, rfl, hy0, hy1, hy2, hd1, hg1, hs1⟩
    have hy3 : y < 50 := hy2.out (by decide)
    have HST3 := iD (HST2.out.next hd1.out hg1.out)
    have HB3 := iD (HB2.out.grown hg1.out (fun e => by injection e with e; omega))
    clear hy1 hy2 hd1 hg1 hs1
    have c4 := HB3.out.c1
    have f4 := HB3.out.frozen 1
    have HST4 := iD (HST3.out.store (u := .int .i64 (1 + y)) (j := 1) hb4 HN9.out HD9.out)
    have HB4 := iD (HB3.out.set 1 (.int .i64 (1 + y)))
    go_upto_region 9 with (fail)
    clear c4 f4
    generalize World.setCell _ _ _ = w4 at *
    have kp := HST4.out.pb.c0
    go_wp2_with fail
    clear kp
    refine (xk g 8 w4 HST4.out.deck (by decide)).mono ?_
    rintro e w5 ⟨r, rfl, hd1, hg1, hs1⟩
    have HST5 := iD (HST4.out.next hd1.out hg1.out)
    have HB5 := iD (HB4.out.grown hg1.out (fun e => by injection e with e; omega))
    clear hd1 hg1 hs1
    rcases r with _ | _
    ·skip
     have kd := HST5.out.nb.c0
     have e0 := HB5.out.c0
     have e1 := HB5.out.c1
     have e2 := HB5.out.c2
     have hz4 := HST5.out.size
     go_wp2_with (at_builtin; go_must (refine zR rfl (.tmp 45) (.tmp 47) rfl tl (by rfl) (HST5.out.rn.alloc _) (by rfl) (Sl.newest (n := 1) (by rfl) (by rfl) (by decide)) (by simp [Value.oneCell']) (by omega) (by omega) (by simp; omega) ?_; intro A' cap' w8 hown8 hgr8 hat8; have hnb := (HST5.out.alloc _).nb_rown hgr8; have HN8 := iD ((HST5.out.alloc _).node (x := ⟨mkS (nm2 (toL ⟨#[78]⟩) i), (1 + y), 0⟩) hown8 hgr8 hat8); have kn : w8.cell? ⟨w.heap.size + 3, 0, none⟩ = some (.slice An i cn) := hnb.cell 0; have fn := hnb.frozen 0; clear hown8 hgr8 hat8 hnb))
     go_roundw
     case rel => exact ⟨i + 1, by go_num, by omega, A', cap', _, HN8.out, by simp [HLN.out], HMN.out.snoc (by rw [HLN.out]; exact td _ _ _ ⟨by omega, by omega⟩ ⟨by omega, by omega⟩)⟩
     case measure => simp [intOf]; omega
    ·have kp := HST5.out.pb.c0
     go_wp2_with fail
     clear kp
     refine (zS g 2 w5 HST5.out.deck (by decide)).mono ?_
     rintro e w6 ⟨z, rfl, hz0, hz1, hz2, hd1, hg1, hs1⟩
     have hz3 : z < 2 := hz2.out (by decide)
     have HST6 := iD (HST5.out.next hd1.out hg1.out)
     have HB6 := iD (HB5.out.grown hg1.out (fun e => by injection e with e; omega))
     clear hz1 hz2 hd1 hg1 hs1
     have c4 := HB6.out.c2
     have f4 := HB6.out.frozen 2
     have HST7 := iD (HST6.out.store (u := .int .i64 (1 + z)) (j := 2) hb4 HN9.out HD9.out)
     have HB7 := iD (HB6.out.set 2 (.int .i64 (1 + z)))
     go_upto_region 11 with (fail)
     clear c4 f4
     generalize World.setCell _ _ _ = w7 at *
     have kd := HST7.out.nb.c0
     have e0 := HB7.out.c0
     have e1 := HB7.out.c1
     have e2 := HB7.out.c2
     have hz4 := HST7.out.size
     go_wp2_with (at_builtin; go_must (refine zR rfl (.tmp 45) (.tmp 47) rfl tl (by rfl) (HST7.out.rn.alloc _) (by rfl) (Sl.newest (n := 1) (by rfl) (by rfl) (by decide)) (by simp [Value.oneCell']) (by omega) (by omega) (by simp; omega) ?_; intro A' cap' w8 hown8 hgr8 hat8; have hnb := (HST7.out.alloc _).nb_rown hgr8; have HN8 := iD ((HST7.out.alloc _).node (x := ⟨mkS (nm2 (toL ⟨#[78]⟩) i), (1 + y), (1 + z)⟩) hown8 hgr8 hat8); have kn : w8.cell? ⟨w.heap.size + 3, 0, none⟩ = some (.slice An i cn) := hnb.cell 0; have fn := hnb.frozen 0; clear hown8 hgr8 hat8 hnb))
     go_roundw
     case rel => exact ⟨i + 1, by go_num, by omega, A', cap', _, HN8.out, by simp [HLN.out], HMN.out.snoc (by rw [HLN.out]; exact td _ _ _ ⟨by omega, by omega⟩ ⟨by omega, by omega⟩)⟩
     case measure => simp [intOf]; omega
  ·obtain rfl : i = k := by omega
   have hmf : ∀ (fn : Fn) (first cap : Array Value) (w : World), (Instr.makeFunc fn first cap).run Tryz.prog w = .ok (.func fn first cap) w := fun _ _ _ _ => rfl
   have HD0 : Hid (su 0 w g dmax An i cn ns wr) := ⟨none, 0, 0, [], HST.out, by omega, Nat.le_refl _, rfl, fun j x h => by simp at h⟩
   clear HST hsz hlk
   go_wp2_with fail
   refine (wu 5 0 (-1) HD0.out ⟨by omega, by omega⟩ hm (vm ⟨by omega, by omega⟩ ⟨by omega, by omega⟩)).mono ?_
   rintro e w1 ⟨rfl, HDw1⟩
   clear hmf
   go_wp2_with fail
   go_loopw [12] (jq w g dmax An i cn ns 1 i) (fun iv _ => i - (intOf iv).toNat)
   case atStart => exact ⟨1, rfl, by omega, by omega, HDw1⟩
   case round =>
    clear HDw1 HD0
    obtain ⟨j, rfl, hj1, hj2, HDr⟩ := hrel
    by_cases hjk : j < i
    ·skip
     have kp := HDr.out.pc
     go_wp2_with fail
     clear kp
     refine (xk g 3 wr HDr.out.deck (by decide)).mono ?_
     rintro e wx ⟨r, rfl, hd1, hg1, hs1⟩
     have HDwx := iD (HDr.out.next hd1.out hg1.out)
     clear hd1 hg1 hs1
     rcases r with _ | _
     ·skip
      have kp := HDwx.out.pc
      go_wp2_with fail
      clear kp
      refine (zS g 3 wx HDwx.out.deck (by omega)).mono ?_
      rintro e wy ⟨r, rfl, r0, r1, r2, hd1, hg1, hs1⟩
      have r3 : r < 3 := r2.out (by omega)
      have HDwy := iD (HDwx.out.next hd1.out hg1.out)
      clear r1 r2 hd1 hg1 hs1
      go_wp2_with fail
      refine (wu (1 + r) ((j : Int) - 1) j HDwy.out ⟨by omega, by omega⟩ hm (tC ⟨by omega, by omega⟩ ⟨by omega, by omega⟩ ⟨by omega, by omega⟩ (by omega))).mono ?_
      rintro e wz ⟨rfl, HDwz⟩
      go_wp2_with fail
      go_roundw
      case rel => exact ⟨j + 1, by go_num, by omega, by omega, HDwz⟩
      case measure => simp [intOf]; omega
     ·skip
      have kp := HDwx.out.pc
      go_wp2_with fail
      clear kp
      refine (zS g j wx HDwx.out.deck (by omega)).mono ?_
      rintro e wt ⟨a, rfl, a0, a1, a2, hd1, hg1, hs1⟩
      have a3 : a < j := a2.out (by omega)
      have HDwt := iD (HDwx.out.next hd1.out hg1.out)
      clear a1 a2 hd1 hg1 hs1
      have kp := HDwt.out.pc
      go_wp2_with fail
      clear kp
      refine (zS g 3 wt HDwt.out.deck (by omega)).mono ?_
      rintro e wy ⟨r, rfl, r0, r1, r2, hd1, hg1, hs1⟩
      have r3 : r < 3 := r2.out (by omega)
      have HDwy := iD (HDwt.out.next hd1.out hg1.out)
      clear r1 r2 hd1 hg1 hs1
      go_wp2_with fail
      refine (wu (1 + r) a j HDwy.out ⟨by omega, by omega⟩ hm (tC ⟨by omega, by omega⟩ ⟨by omega, by omega⟩ ⟨by omega, by omega⟩ (by omega))).mono ?_
      rintro e wz ⟨rfl, HDwz⟩
      go_wp2_with fail
      go_roundw
      case rel => exact ⟨j + 1, by go_num, by omega, by omega, HDwz⟩
      case measure => simp [intOf]; omega
    ·obtain rfl : j = i := by omega
     have hjj : decide (j < j) = false := by simp
     have kp := HDr.out.pc
     go_wp2_with fail
     clear kp
     refine (zS g 4 wr HDr.out.deck (by omega)).mono ?_
     rintro e wx ⟨r, rfl, r0, r1, r2, hd1, hg1, hs1⟩
     have r3 : r < 4 := r2.out (by omega)
     have HDwx := iD (HDr.out.next hd1.out hg1.out)
     clear r1 r2 hd1 hg1 hs1
     clear hjj
     obtain ⟨q, rfl⟩ := Int.eq_ofNat_of_zero_le r0
     go_wp2_with fail
     go_loopw [14] (jq w g dmax An j cn ns 0 3) (fun iv _ => (intOf iv).toNat)
     case atStart => exact ⟨q, rfl, by omega, by omega, HDwx⟩
     case round =>
      clear HDwx HDr r0 r3
      obtain ⟨i, rfl, hi1, hi2, HDr⟩ := hrel
      by_cases h0 : 0 < i
      ·skip
       have kp := HDr.out.pc
       go_wp2_with fail
       clear kp
       refine (zS g 4 wr HDr.out.deck (by omega)).mono ?_
       rintro e wx ⟨r, rfl, r0, r1, r2, hd1, hg1, hs1⟩
       have r3 : r < 4 := r2.out (by omega)
       have HDwx := iD (HDr.out.next hd1.out hg1.out)
       clear r1 r2 hd1 hg1 hs1
       rcases (show r = 0 ∨ r = 1 ∨ r = 2 ∨ r = 3 by omega) with rfl | rfl | rfl | rfl
       ·skip
        have kp := HDwx.out.pc
        go_wp2_with fail
        clear kp
        refine (zS g j wx HDwx.out.deck (by omega)).mono ?_
        rintro e w3 ⟨a, rfl, a0, a1, a2, hd1, hg1, hs1⟩
        have a3 : a < j := a2.out (by omega)
        have HDw3 := iD (HDwx.out.next hd1.out hg1.out)
        clear a1 a2 hd1 hg1 hs1
        have kp := HDw3.out.pc
        go_wp2_with fail
        clear kp
        refine (zS g ((j : Int) - 1) w3 HDw3.out.deck (by omega)).mono ?_
        rintro e w4 ⟨c, rfl, c0, c1, c2, hd1, hg1, hs1⟩
        have c3 : c < ((j : Int) - 1) := c2.out (by omega)
        have HDw4 := iD (HDw3.out.next hd1.out hg1.out)
        clear c1 c2 hd1 hg1 hs1
        have hrem := gT ⟨a0, a3⟩ ⟨c0, c3⟩
        have kp := HDw4.out.pc
        go_wp2_with fail
        clear kp
        refine (zS g 3 w4 HDw4.out.deck (by omega)).mono ?_
        rintro e w5 ⟨r, rfl, r0, r1, r2, hd1, hg1, hs1⟩
        have r3 : r < 3 := r2.out (by omega)
        have HDw5 := iD (HDw4.out.next hd1.out hg1.out)
        clear r1 r2 hd1 hg1 hs1
        go_wp2_with fail
        refine (wu (1 + r) a ((a + 1 + c) % j) HDw5.out ⟨by omega, by omega⟩ hm (tC ⟨by omega, by omega⟩ ⟨by omega, by omega⟩ ⟨by omega, by omega⟩ (by omega))).mono ?_
        rintro e w6 ⟨rfl, HDw6⟩
        go_wp2_with fail
        go_roundw
        case rel => exact ⟨i - 1, by rw [show ((i - 1 : Nat) : Int) = (i : Int) - 1 by omega], by omega, by omega, HDw6⟩
        case measure => simp [intOf]; omega
       ·skip
        have kp := HDwx.out.pc
        go_wp2_with fail
        clear kp
        refine (zS g j wx HDwx.out.deck (by omega)).mono ?_
        rintro e w3 ⟨a, rfl, a0, a1, a2, hd1, hg1, hs1⟩
        have a3 : a < j := a2.out (by omega)
        have HDw3 := iD (HDwx.out.next hd1.out hg1.out)
        clear a1 a2 hd1 hg1 hs1
        go_wp2_with fail
        refine (wu 5 a (-1) HDw3.out ⟨by omega, by omega⟩ hm (vm ⟨by omega, by omega⟩ ⟨by omega, by omega⟩)).mono ?_
        rintro e w6 ⟨rfl, HDw6⟩
        go_wp2_with fail
        go_roundw
        case rel => exact ⟨i - 1, by rw [show ((i - 1 : Nat) : Int) = (i : Int) - 1 by omega], by omega, by omega, HDw6⟩
        case measure => simp [intOf]; omega
       ·skip
        have kp := HDwx.out.pc
        go_wp2_with fail
        clear kp
        refine (zS g j wx HDwx.out.deck (by omega)).mono ?_
        rintro e w3 ⟨a, rfl, a0, a1, a2, hd1, hg1, hs1⟩
        have a3 : a < j := a2.out (by omega)
        have HDw3 := iD (HDwx.out.next hd1.out hg1.out)
        clear a1 a2 hd1 hg1 hs1
        go_wp2_with fail
        refine (wu 6 a (-1) HDw3.out ⟨by omega, by omega⟩ hm (vm ⟨by omega, by omega⟩ ⟨by omega, by omega⟩)).mono ?_
        rintro e w6 ⟨rfl, HDw6⟩
        go_wp2_with fail
        go_roundw
        case rel => exact ⟨i - 1, by rw [show ((i - 1 : Nat) : Int) = (i : Int) - 1 by omega], by omega, by omega, HDw6⟩
        case measure => simp [intOf]; omega
       ·skip
        go_wp2_with fail
        go_roundw
        case rel => exact ⟨i - 1, by rw [show ((i - 1 : Nat) : Int) = (i : Int) - 1 by omega], by omega, by omega, HDwx⟩
        case measure => simp [intOf]; omega
      ·obtain rfl : i = 0 := by omega
       have kp := HDr.out.pc
       go_wp2_with fail
       clear kp
       refine (zS g 3 wr HDr.out.deck (by omega)).mono ?_
       rintro e wx ⟨r, rfl, r0, r1, r2, hd1, hg1, hs1⟩
       have r3 : r < 3 := r2.out (by omega)
       have HDwx := iD (HDr.out.next hd1.out hg1.out)
       clear r1 r2 hd1 hg1 hs1
       obtain ⟨q, rfl⟩ := Int.eq_ofNat_of_zero_le r0
       go_wp2_with fail
       rw [show (1 : Int) + (q : Int) = ((q + 1 : Nat) : Int) by omega]
       obtain ⟨m, hmq⟩ : ∃ m, m = q + 1 := ⟨_, rfl⟩
       rw [← hmq]
       have hm3 : m ≤ 3 := by omega
       clear hmq
       go_loopw [17] (jq w g dmax An j cn ns 0 3) (fun iv _ => (intOf iv).toNat)
       case atStart => exact ⟨m, rfl, by omega, by omega, HDwx⟩
       case round =>
        clear HDwx HDr r0 r3
        obtain ⟨i, rfl, hi1, hi2, HDr⟩ := hrel
        by_cases h0 : 0 < i
        ·skip
         have kp := HDr.out.pc
         go_wp2_with fail
         clear kp
         refine (zS g j wr HDr.out.deck (by omega)).mono ?_
         rintro e w3 ⟨a, rfl, a0, a1, a2, hd1, hg1, hs1⟩
         have a3 : a < j := a2.out (by omega)
         have HDw3 := iD (HDr.out.next hd1.out hg1.out)
         clear a1 a2 hd1 hg1 hs1
         go_wp2_with fail
         refine (wu 4 a (-1) HDw3.out ⟨by omega, by omega⟩ hm (vm ⟨by omega, by omega⟩ ⟨by omega, by omega⟩)).mono ?_
         rintro e w6 ⟨rfl, HDw6⟩
         go_wp2_with fail
         go_roundw
         case rel => exact ⟨i - 1, by rw [show ((i - 1 : Nat) : Int) = (i : Int) - 1 by omega], by omega, by omega, HDw6⟩
         case measure => simp [intOf]; omega
        ·obtain rfl : i = 0 := by omega
         obtain ⟨Ad, nd, cd, ds, hst, h2, h3, h4, h5⟩ := HDr.out
         have HE := iD (oy (nodes := nodes) Ad nd cd ds hst ⟨h2, h3, h4, h5⟩ ⟨HLN.out, HMN.out⟩ ⟨hk2, hkn⟩ (.slice An j cn) (.slice Ad nd cd))
         have c0 := hst.nb.c0
         have c1 := hst.nb.c1
         have d0 := hst.rb.c0
         have d1 := hst.rb.c1
         have f0 := hst.rb.frozen 0
         have f1 := hst.rb.frozen 1
         clear hst h2 h3 h4 h5 HDr HLN HMN
         go_wp2_with fail
         exact bodyPost_ret (v := .agg #[.slice An j cn, .slice Ad nd cd]) (by simp [results, Tryz.results13, go_sem, d0, d1]) rfl HE.out
end Go.Proofs.YtkkobemhbicjgaaGreatDoor
