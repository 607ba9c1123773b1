import Derived.Test.YtepicjpdhpojnaaGreatDoorS35
import Derived.Test.YtepicjpdhpojnaaGreatDoorS33
import Derived.Test.YtepicjpdhpojnaaGreatDoorS27
import Derived.Test.YtepicjpdhpojnaaGreatDoorS08
import Derived.Test.YtepicjpdhpojnaaGreatDoorS30
import Derived.Test.YtepicjpdhpojnaaGreatDoorS12
import Derived.Test.YtepicjpdhpojnaaGreatDoorS09
import Derived.Test.YtepicjpdhpojnaaGreatDoorS10
set_option maxRecDepth 100000
set_option maxHeartbeats 8000000
namespace Go.Proofs.YtepicjpdhpojnaaGreatDoor
open Go.RowKit
def RColsPost (w : World) (nn : Nat) (er : Int) (ds : List Dv) (s : List Int) (e : Ending) (w' : World) : Prop :=
 Hid (Below w.heap.size w w') ∧ ((er ≠ 0 ∧ e = .returned (.tuple #[.slice none 0 0, .int .i64 er])) ∨ (er = 0 ∧ ∃ (A : Option Addr) (out : List Int), e = .returned (.tuple #[.slice A nn nn, .int .i64 0]) ∧ Hid (IntsO w' w.heap.size A nn nn out) ∧ Hid (IsCols nn ds s out)))
end Go.Proofs.YtepicjpdhpojnaaGreatDoor
namespace Go.Proofs.YtepicjpdhpojnaaGreatDoor
open Go.RowKit
theorem pparts_any (An Ad As : Option Addr) (nn cn nd cd n c : Nat) (ns : List Nd) (ds : List Dv) (s : List Int) (w : World) (hl : Laid w) (hn : Sl w w.heap.size 3 An nn cn (ns.flatMap Nd.cells)) (hd : Sl w w.heap.size 5 Ad nd cd (ds.flatMap Dv.cells)) (hs : Sl w w.heap.size 1 As n c (intsV s))
 (hsn : ∀ x ∈ ns, x.name.size ≤ 9223372036854775807) (hsd : ∀ x ∈ ds, x.name.size ≤ 9223372036854775807) :
 Calls Tryz.prog 88 #[.agg #[.slice An nn cn, .slice Ad nd cd], .slice As n c] w (RPartsPost w nn (stateErr ns ds s) ds s) := by
 have HLN := Lib.hid (hn.len (fun _ => rfl) (by decide)); have HLD := Lib.hid (hd.len (fun _ => rfl) (by decide)); have HLS := Lib.hid (hs.len (fun _ => rfl) (by decide))
 have HB : Hid (Below w.heap.size w (w.alloc (.cells #[.slice An nn cn, .slice Ad nd cd] 30))) := (Below.refl _ _).alloc (Nat.le_refl _) _
 have HK := Lib.hid (Blk.new w 30 #[.slice An nn cn, .slice Ad nd cd])
 have HC := Lib.hid (mstate_any An Ad As nn cn nd cd n c w.heap.size w.heap.size w.heap.size ns ds s (w.alloc (.cells #[.slice An nn cn, .slice Ad nd cd] 30)) (hl.alloc _) (hn.alloc (Nat.le_refl _) _) (hd.alloc (Nat.le_refl _) _) (hs.alloc (Nat.le_refl _) _) (by simp) (by simp) (by simp) hsn hsd)
 have HD := Lib.hid hd; have HS := Lib.hid hs
 clear hl hn hd hs hsn hsd
 go_enter Tryz.func88, Tryz.ntmps88
 go_wp2_with fail
 generalize World.alloc _ _ = W at *
 refine HC.out.mono ?_
 rintro e w1 ⟨rfl, hb1⟩
 have HB1 := Lib.hid (HB.out.trans (hb1.mono HB.out.size))
 have HK1 := Lib.hid (HK.out.below hb1 HK.out.lt)
 clear hb1 HB HK HC
 by_cases he : stateErr ns ds s = 0; rotate_left
 ·have q : (stateErr ns ds s != 0) = true := by simpa using he
  have HNZ := Lib.hid he
  clear he
  go_wp2_with fail
  go_ret2
  exact ⟨HB1.out, .inl ⟨HNZ.out, rfl⟩⟩
 have HEZ := Lib.hid he
 obtain ⟨hck, hln, hpo⟩ := stateErr_len he
 have HOK := Lib.hid (NetOk.of hck)
 have hnl := HOK.out.nl
 have hnn : nn ≤ 10000 := by have := HLN.out; omega
 have HEN : Hid (EndsOk nn ds) := by have := HOK.out.e; rw [HLN.out] at this; exact this
 have hdn : nd ≤ n := by have := HLD.out; have := HLS.out; omega
 rw [he]
 clear he hck hln hpo hnl
 have hzw := HB1.out.size
 have k0 : w1.cell? ⟨w.heap.size, 0, none⟩ = some (.slice An nn cn) := HK1.out.cell 0
 have k1 : w1.cell? ⟨w.heap.size, 1, none⟩ = some (.slice Ad nd cd) := HK1.out.cell 1
 go_wp2_with fail
 clear k0 k1
 refine (parts_any An Ad As nn cn nd cd n c w.heap.size w.heap.size ds s w1 (HD.out.below HB1.out (Nat.le_refl _)) hzw (HS.out.below HB1.out (Nat.le_refl _)) hzw hnn hdn HEN.out).mono ?_
 rintro e w2 ⟨A, p, rfl, hO, hP, hb2⟩
 go_wp2_with fail
 go_ret2
 exact ⟨HB1.out.trans (hb2.out.mono hzw), .inr ⟨HEZ.out, A, p, rfl, hO.out.mono hzw, hP⟩⟩
theorem pcols_any (An Ad As : Option Addr) (nn cn nd cd n c : Nat) (ns : List Nd) (ds : List Dv) (s : List Int) (w : World) (hl : Laid w) (hn : Sl w w.heap.size 3 An nn cn (ns.flatMap Nd.cells)) (hd : Sl w w.heap.size 5 Ad nd cd (ds.flatMap Dv.cells)) (hs : Sl w w.heap.size 1 As n c (intsV s))
 (hsn : ∀ x ∈ ns, x.name.size ≤ 9223372036854775807) (hsd : ∀ x ∈ ds, x.name.size ≤ 9223372036854775807) :
 Calls Tryz.prog 51 #[.agg #[.slice An nn cn, .slice Ad nd cd], .slice As n c] w (RColsPost w nn (stateErr ns ds s) ds s) := by
 have HLN := Lib.hid (hn.len (fun _ => rfl) (by decide)); have HLD := Lib.hid (hd.len (fun _ => rfl) (by decide)); have HLS := Lib.hid (hs.len (fun _ => rfl) (by decide))
 have HB : Hid (Below w.heap.size w (w.alloc (.cells #[.slice An nn cn, .slice Ad nd cd] 30))) := (Below.refl _ _).alloc (Nat.le_refl _) _
 have HK := Lib.hid (Blk.new w 30 #[.slice An nn cn, .slice Ad nd cd])
 have HC := Lib.hid (pparts_any An Ad As nn cn nd cd n c ns ds s (w.alloc (.cells #[.slice An nn cn, .slice Ad nd cd] 30)) (hl.alloc _) ((hn.alloc (Nat.le_refl _) _).more (by simp)) ((hd.alloc (Nat.le_refl _) _).more (by simp)) ((hs.alloc (Nat.le_refl _) _).more (by simp)) hsn hsd)
 have HD := Lib.hid hd; have HS := Lib.hid hs
 clear hl hn hd hs hsn hsd
 go_enter Tryz.func51, Tryz.ntmps51
 go_wp2_with fail
 generalize World.alloc _ _ = W at *
 refine HC.out.mono ?_
 rintro e w1 ⟨hb1, hcase⟩
 have HB1 := Lib.hid (HB.out.trans (hb1.out.mono HB.out.size))
 have HK1 := Lib.hid (HK.out.below hb1.out HK.out.lt)
 clear hb1 HB HK HC
 rcases hcase with ⟨he, rfl⟩ | ⟨he, A, p, rfl, hO, hP⟩
 ·have q : (stateErr ns ds s != 0) = true := by simpa using he
  have HNZ := Lib.hid he
  clear he
  go_wp2_with fail
  go_ret2
  exact ⟨HB1.out, .inl ⟨HNZ.out, rfl⟩⟩
 have HEZ := Lib.hid he
 obtain ⟨hck, hln, hpo⟩ := stateErr_len he
 have HOK := Lib.hid (NetOk.of hck)
 have hnl := HOK.out.nl
 have hdl := HOK.out.dl
 have hnn : nn ≤ 10000 := by have := HLN.out; omega
 have hndd : nd ≤ 10000 := by have := HLD.out; omega
 have HAO : Hid (AOk nn ds) := by have := HOK.out.a; rw [HLN.out] at this; exact this
 have hdn : nd ≤ n := by have := HLD.out; have := HLS.out; omega
 clear he hck hln hpo hnl hdl
 have hzw := HB1.out.size
 have k0 : w1.cell? ⟨w.heap.size, 0, none⟩ = some (.slice An nn cn) := HK1.out.cell 0
 have k1 : w1.cell? ⟨w.heap.size, 1, none⟩ = some (.slice Ad nd cd) := HK1.out.cell 1
 go_wp2_with fail
 clear k0 k1
 refine (colours_any An Ad As A nn cn nd cd n c nn w.heap.size w.heap.size w1.heap.size ds s p w1 (HD.out.below HB1.out (Nat.le_refl _)) hzw (HS.out.below HB1.out (Nat.le_refl _)) hzw hO.out.sl (Nat.le_refl _) hnn hndd hdn HAO.out hP.out).mono ?_
 rintro e w2 ⟨B, q, rfl, hO2, hC, hb2⟩
 go_wp2_with fail
 go_ret2
 exact ⟨HB1.out.trans (hb2.out.mono hzw), .inr ⟨HEZ.out, B, q, rfl, hO2.out.mono hzw, hC⟩⟩
end Go.Proofs.YtepicjpdhpojnaaGreatDoor
namespace Go.Proofs.YtepicjpdhpojnaaGreatDoor
open Go.RowKit
def hasLk (ls : List Lk) (k : Lk) : Bool := (idxE k ls).isSome
theorem hasLk_iff (ls : List Lk) (k : Lk) : hasLk ls k = true ↔ k ∈ ls := by
 unfold hasLk
 induction ls with
 | nil => simp [idxE]
 | cons x l ih =>
  rw [idxE]
  by_cases h : eqLk k x = true
  ·rw [if_pos h, (eqLk_iff _ _).1 h]; simp
  ·rw [if_neg h, List.mem_cons]
   have hne : k ≠ x := fun e => h ((eqLk_iff _ _).2 e)
   rw [Option.isSome_map, ih]
   exact ⟨.inr, fun e => e.resolve_left hne⟩
theorem optI_some (o : Option Nat) : decide (0 ≤ optI o) = o.isSome := by
 rcases o with _ | i
 ·rfl
 ·show decide ((0 : Int) ≤ i) = true
  simp
theorem contk_any (A : Option Addr) (n c B : Nat) (ls : List Lk) (d p q : Int) (w : World) (hs : Sl w B 3 A n c (ls.flatMap Lk.cells)) (hB : B ≤ w.heap.size) :
 Calls Tryz.prog 56 #[.slice A n c, .agg #[.int .i64 d, .int .i64 p, .int .i64 q]] w fun e w' => e = .returned (.bool (hasLk ls ⟨d, p, q⟩)) ∧ Below w.heap.size w w' := by
 have HB : Hid (Below w.heap.size w (w.alloc (.cells #[.int .i64 d, .int .i64 p, .int .i64 q] 46))) := (Below.refl _ _).alloc (Nat.le_refl _) _
 have HK := Lib.hid (Blk.new w 46 #[.int .i64 d, .int .i64 p, .int .i64 q])
 have HI := Lib.hid (idx_any A n c B ls d p q (w.alloc (.cells #[.int .i64 d, .int .i64 p, .int .i64 q] 46)) (hs.alloc hB _) (by simp; omega))
 have HR : Hid (decide (0 ≤ optI (idxE ⟨d, p, q⟩ ls)) = hasLk ls ⟨d, p, q⟩) := optI_some _
 clear hs
 go_enter Tryz.func56, Tryz.ntmps56
 go_wp2_with fail
 generalize World.alloc _ _ = W at *
 refine HI.out.mono ?_
 rintro e w1 ⟨rfl, hb1⟩
 have HB1 := Lib.hid (HB.out.trans (hb1.mono HB.out.size))
 clear hb1
 go_wp2_with fail
 go_ret
 exact ⟨ret_bool HR.out, HB1.out⟩
theorem sec1_gives (cb nn : Nat) (Ac : Option Addr) (B : Nat) (cl : List Int) (v : Int) (W : World) (hc : W.cell? ⟨cb, 0, none⟩ = some (.slice Ac nn nn)) (hs : Sl W B 1 Ac nn nn (intsV cl)) (hv : 0 ≤ v ∧ v < nn) :
 FnGives Tryz.prog 53 #[.pointer (some ⟨cb, 0, none⟩)] #[.int .i64 v] (.bool (!(bits BinOp.and IntKind.i64 (cl.getD v.toNat 0) 1 == 0))) W := by
 obtain ⟨k, rfl⟩ := Int.eq_ofNat_of_zero_le hv.1
 have hk : k < nn := by omega
 have hle := hs.le
 obtain ⟨b, off, x, rfl, hb, hx, hcx⟩ := hs.at1 hk
 have HX : Hid (cl.getD (k : Int).toNat 0 = x) := by unfold Hid; rw [Int.toNat_natCast, List.getD_eq_getElem?_getD, hx]; rfl
 show Calls Tryz.prog 53 #[.int .i64 (k : Int), .pointer (some ⟨cb, 0, none⟩)] W _
 clear hx hs hv
 go_enter Tryz.func53, Tryz.ntmps53
 go_wp2_with fail
 go_ret
 exact ⟨by rw [HX.out]; rfl, 0, rfl⟩
theorem sec2_any (fb : Nat) (Al : Option Addr) (nl cl : Nat) (B : Nat) (ls : List Lk) (d p q : Int) (W : World) (hc : W.cell? ⟨fb, 1, none⟩ = some (.slice Al nl cl)) (hs : Sl W B 3 Al nl cl (ls.flatMap Lk.cells)) (hB : B ≤ W.heap.size) :
 Calls Tryz.prog 55 (#[.agg #[.int .i64 d, .int .i64 p, .int .i64 q]] ++ #[.pointer (some ⟨fb, 0, none⟩)]) W fun e w' => e = .returned (.bool (!hasLk ls ⟨d, p, q⟩)) ∧ Below W.heap.size W w' := by
 have HB : Hid (Below W.heap.size W (W.alloc (.cells #[.int .i64 d, .int .i64 p, .int .i64 q] 46))) := (Below.refl _ _).alloc (Nat.le_refl _) _
 have HCK := Lib.hid (contk_any Al nl cl B ls d p q (W.alloc (.cells #[.int .i64 d, .int .i64 p, .int .i64 q] 46)) (hs.alloc hB _) (by simp; omega))
 have HK := Lib.hid (Blk.new W 46 #[.int .i64 d, .int .i64 p, .int .i64 q])
 have hfb : fb < W.heap.size := World.block_lt_of_cell? W ⟨fb, 1, none⟩ hc
 have hc2 : (W.alloc (.cells #[.int .i64 d, .int .i64 p, .int .i64 q] 46)).cell? ⟨fb, 1, none⟩ = some (.slice Al nl cl) := (HB.out.cell (p := ⟨fb, 1, none⟩) hfb).trans hc
 have k0 : (W.alloc (.cells #[.int .i64 d, .int .i64 p, .int .i64 q] 46)).cell? ⟨W.heap.size, 0, none⟩ = some (.int .i64 d) := HK.out.cell 0
 have k1 : (W.alloc (.cells #[.int .i64 d, .int .i64 p, .int .i64 q] 46)).cell? ⟨W.heap.size, 1, none⟩ = some (.int .i64 p) := HK.out.cell 1
 have k2 : (W.alloc (.cells #[.int .i64 d, .int .i64 p, .int .i64 q] 46)).cell? ⟨W.heap.size, 2, none⟩ = some (.int .i64 q) := HK.out.cell 2
 show Calls Tryz.prog 55 #[.agg #[.int .i64 d, .int .i64 p, .int .i64 q], .pointer (some ⟨fb, 0, none⟩)] W _
 clear hs hc
 go_enter Tryz.func55, Tryz.ntmps55
 go_upto_region 1 with (fail)
 generalize World.alloc _ _ = W2 at *
 go_wp2_with fail
 refine HCK.out.mono ?_
 rintro e w1 ⟨rfl, hb1⟩
 have HB1 := Lib.hid (HB.out.trans (hb1.mono HB.out.size))
 clear hb1
 go_wp2_with fail
 go_ret
 exact ⟨rfl, HB1.out⟩
end Go.Proofs.YtepicjpdhpojnaaGreatDoor
namespace Go.Proofs.YtepicjpdhpojnaaGreatDoor
open Go.RowKit
noncomputable def secErr (ns : List Nd) (ds : List Dv) (F : Fd) (ls : List Lk) (z : List Int) : Int := if fdErr ns ds F ≠ 0 then fdErr ns ds F else sideErr ns ds ls z
def liveAt (cl : List Int) (v : Int) : Bool := !(bits BinOp.and IntKind.i64 (cl.getD v.toNat 0) 1 == 0)
noncomputable def secB (ns : List Nd) (ds : List Dv) (F : Fd) (ls : List Lk) (z cl : List Int) (ea : Bool) : Bool := !(z.any (liveAt cl) || ls.any fun k => !hasLk F.ls k) && (!ea || sidesB ns ds ls z)
def SecPost (w : World) (nn : Nat) (ns : List Nd) (ds : List Dv) (F : Fd) (ls : List Lk) (z : List Int) (ea : Bool) (e : Ending) (w' : World) : Prop :=
 (secErr ns ds F ls z ≠ 0 ∧ e = .returned (.tuple #[.bool false, .int .i64 (secErr ns ds F ls z)]) ∨ secErr ns ds F ls z = 0 ∧ ∃ cl, Hid (IsCols nn ds F.s cl) ∧ e = .returned (.tuple #[.bool (secB ns ds F ls z cl ea), .int .i64 0])) ∧ Hid (Below w.heap.size w w')
theorem Secure_any (An Ad As Al At Am Az : Option Addr) (nn cn nd cd n c nl cl nt ct nm cm nz cz : Nat) (ns : List Nd) (ds : List Dv) (F : Fd) (ls : List Lk) (z : List Int) (ea : Bool) (w : World) (h : FdM w An Ad As Al At nn cn nd cd n c nl cl nt ct ns ds F) (hm : Sl w w.heap.size 3 Am nm cm (ls.flatMap Lk.cells)) (hz : Sl w w.heap.size 1 Az nz cz (intsV z)) (hnz : nz ≤ 10000) :
 Calls Tryz.prog 17 #[.agg #[.slice An nn cn, .slice Ad nd cd], .agg #[.slice As n c, .slice Al nl cl, .slice At nt ct], .slice Am nm cm, .slice Az nz cz, .bool ea] w (SecPost w nn ns ds F ls z ea) := by
 obtain ⟨hl1, hl2, -, -, -⟩ := h.ln
 have HL1 := Lib.hid hl1; have HL2 := Lib.hid hl2
 have HF := Lib.hid h; have HM := Lib.hid hm; have HZ := Lib.hid hz
 have HB0 : Hid (Below w.heap.size w ((w.alloc (.cells #[.slice An nn cn, .slice Ad nd cd] 30)).alloc (.cells #[.slice As n c, .slice Al nl cl, .slice At nt ct] 35))) := ((Below.refl _ _).alloc (Nat.le_refl _) _).alloc (by simp) _
 have HK0 := Lib.hid ((Blk.new w 30 #[.slice An nn cn, .slice Ad nd cd]).alloc (.cells #[.slice As n c, .slice Al nl cl, .slice At nt ct] 35))
 have HG0 : Hid (Blk ((w.alloc (.cells #[.slice An nn cn, .slice Ad nd cd] 30)).alloc (.cells #[.slice As n c, .slice Al nl cl, .slice At nt ct] 35)) (w.heap.size + 1) 35 #[.slice As n c, .slice Al nl cl, .slice At nt ct]) := by
  have := Blk.new (w.alloc (.cells #[.slice An nn cn, .slice Ad nd cd] 30)) 35 #[.slice As n c, .slice Al nl cl, .slice At nt ct]
  unfold Hid; simpa using this
 clear h hm hz hl1 hl2
 go_enter Tryz.func17, Tryz.ntmps17
 go_wp2_with fail
 generalize World.alloc _ _ = W at *
 refine (fcheck_any An Ad As Al At nn cn nd cd n c nl cl nt ct ns ds F W (HF.out.later HB0.out)).mono ?_
 rintro e w1 ⟨rfl, hb1⟩
 have HB1 := Lib.hid (HB0.out.trans (hb1.mono HB0.out.size)); have HK1 := Lib.hid (HK0.out.below hb1 HK0.out.lt); have HG1 := Lib.hid (HG0.out.below hb1 HG0.out.lt)
 clear hb1 HB0 HK0 HG0
 by_cases he : fdErr ns ds F = 0; rotate_left
 ·have q : (fdErr ns ds F != 0) = true := by simpa using he
  have HE : Hid (secErr ns ds F ls z = fdErr ns ds F) := by unfold Hid secErr; rw [if_pos he]
  have HNZ := Lib.hid he
  clear he
  go_wp2_with fail
  go_ret2
  exact ⟨.inl ⟨by rw [HE.out]; exact HNZ.out, by rw [HE.out]; rfl⟩, HB1.out⟩
 have HE1 : Hid (secErr ns ds F ls z = sideErr ns ds ls z) := by unfold Hid secErr; rw [if_neg (by omega)]
 have HFZ := Lib.hid he
 rw [he]
 clear he
 have k0 : w1.cell? ⟨w.heap.size, 0, none⟩ = some (.slice An nn cn) := HK1.out.cell 0
 have k1 : w1.cell? ⟨w.heap.size, 1, none⟩ = some (.slice Ad nd cd) := HK1.out.cell 1
 go_wp2_with fail
 clear k0 k1
 have HF1 := Lib.hid (HF.out.later HB1.out)
 have hz1 := HB1.out.size
 refine (lcheck_any An Ad Am nn cn nd cd nm cm w.heap.size w.heap.size w.heap.size ns ds ls w1 HF1.out.la (HF.out.hn.below HB1.out (Nat.le_refl _)) (HF.out.hd.below HB1.out (Nat.le_refl _)) (HM.out.below HB1.out (Nat.le_refl _)) hz1 hz1 hz1 HF.out.sn HF.out.sd).mono ?_
 rintro e w2 ⟨rfl, hb2⟩
 have HB2 := Lib.hid (HB1.out.trans (hb2.mono HB1.out.size)); have HK2 := Lib.hid (HK1.out.below hb2 HK1.out.lt); have HG2 := Lib.hid (HG1.out.below hb2 HG1.out.lt)
 clear hb2 HB1 HK1 HG1 HF1 hz1
 by_cases he : locksErr ns ds ls = 0; rotate_left
 ·have q : (locksErr ns ds ls != 0) = true := by simpa using he
  have HE : Hid (secErr ns ds F ls z = locksErr ns ds ls) := by unfold Hid; rw [HE1.out]; unfold sideErr; rw [if_pos he]
  have HNZ := Lib.hid he
  clear he
  go_wp2_with fail
  go_ret2
  exact ⟨.inl ⟨by rw [HE.out]; exact HNZ.out, by rw [HE.out]; rfl⟩, HB2.out⟩
 have HE2 : Hid (sideErr ns ds ls z = zoneErr ns ds z) := by unfold Hid sideErr; rw [if_neg (by omega)]
 rw [he]
 clear he
 have k0 : w2.cell? ⟨w.heap.size, 0, none⟩ = some (.slice An nn cn) := HK2.out.cell 0
 have k1 : w2.cell? ⟨w.heap.size, 1, none⟩ = some (.slice Ad nd cd) := HK2.out.cell 1
 go_wp2_with fail
 clear k0 k1
 have HF2 := Lib.hid (HF.out.later HB2.out)
 have hz2 := HB2.out.size
 refine (zcheck_any An Ad Az nn cn nd cd nz cz ns ds z w2 HF2.out.la HF2.out.hn HF2.out.hd ((HZ.out.below HB2.out (Nat.le_refl _)).more hz2) HF.out.sn HF.out.sd).mono ?_
 rintro e w3 ⟨rfl, hb3⟩
 have HB3 := Lib.hid (HB2.out.trans (hb3.mono HB2.out.size)); have HK3 := Lib.hid (HK2.out.below hb3 HK2.out.lt); have HG3 := Lib.hid (HG2.out.below hb3 HG2.out.lt)
 clear hb3 HB2 HK2 HG2 HF2 hz2
 by_cases he : zoneErr ns ds z = 0; rotate_left
 ·have q : (zoneErr ns ds z != 0) = true := by simpa using he
  have HE : Hid (secErr ns ds F ls z = zoneErr ns ds z) := by unfold Hid; rw [HE1.out, HE2.out]
  have HNZ := Lib.hid he
  clear he
  go_wp2_with fail
  go_ret2
  exact ⟨.inl ⟨by rw [HE.out]; exact HNZ.out, by rw [HE.out]; rfl⟩, HB3.out⟩
 have HS0 : Hid (sideErr ns ds ls z = 0) := by unfold Hid; rw [HE2.out]; exact he
 have HE : Hid (secErr ns ds F ls z = 0) := by unfold Hid; rw [HE1.out]; exact HS0.out
 obtain ⟨hck, hzp, hzr⟩ := zoneErr_zero he
 have HOK := Lib.hid (NetOk.of hck)
 have hndl := HOK.out.dl
 have hnd : nd ≤ 1000 := by have := HL2.out; omega
 have HZI : Hid (∀ v ∈ z, 0 ≤ v ∧ v < nn) := fun v hv => by have := ris_mem hzr v hv; rw [HL1.out] at this; omega
 rw [he]
 clear he hck hzp hzr hndl HE1 HE2
 have k0 : w3.cell? ⟨w.heap.size, 0, none⟩ = some (.slice An nn cn) := HK3.out.cell 0
 have k1 : w3.cell? ⟨w.heap.size, 1, none⟩ = some (.slice Ad nd cd) := HK3.out.cell 1
 have k2 : w3.cell? ⟨w.heap.size + 1, 0, none⟩ = some (.slice As n c) := HG3.out.cell 0
 go_wp2_with fail
 clear k0 k1 k2
 have HF3 := Lib.hid (HF.out.later HB3.out)
 refine (pcols_any An Ad As nn cn nd cd n c ns ds F.s w3 HF3.out.la HF3.out.hn HF3.out.hd HF3.out.hs HF.out.sn HF.out.sd).mono ?_
 rintro e w4 ⟨hb4, hcase⟩
 rcases hcase with ⟨he, _⟩ | ⟨_, Ac, co, rfl, hO, hC⟩
 ·exact absurd (fdErr_zero HFZ.out).1 he
 have HC := Lib.hid hC.out
 have HB5 : Hid (Below w.heap.size w (w4.alloc (.cells #[.slice Ac nn nn] 22))) := (HB3.out.trans (hb4.out.mono HB3.out.size)).alloc (Nat.le_trans HB3.out.size hb4.out.size) _
 have HK5 := Lib.hid ((HK3.out.below hb4.out HK3.out.lt).alloc (.cells #[.slice Ac nn nn] 22))
 have HG5 := Lib.hid ((HG3.out.below hb4.out HG3.out.lt).alloc (.cells #[.slice Ac nn nn] 22))
 have HQ5 := Lib.hid (Blk.new w4 22 #[.slice Ac nn nn])
 have HO5 : Hid (Sl (w4.alloc (.cells #[.slice Ac nn nn] 22)) w4.heap.size 1 Ac nn nn (intsV co)) := hO.out.sl.alloc (Nat.le_refl _) _
 have hzq : w4.heap.size < (w4.alloc (.cells #[.slice Ac nn nn] 22)).heap.size := by simp
 clear hC hO hb4 HB3 HK3 HG3 HF3
 go_upto_region 11 with (fail)
 generalize World.alloc w4 _ = W5 at *
 have hz5 := HB5.out.size
 go_wp2_with fail
 refine (contR_any (fun v => 0 ≤ v ∧ v < nn) 53 #[.pointer (some ⟨w4.heap.size, 0, none⟩)] (liveAt co) (enters_of Tryz.func53 (by kernel_rfl) rfl) Az nz cz w.heap.size z W5 (HZ.out.below HB5.out (Nat.le_refl _)) HZI.out (fun W v hv hb => sec1_gives w4.heap.size nn Ac w4.heap.size co v W ((HQ5.out.below hb HQ5.out.lt).cell 0) (HO5.out.below hb (by omega)) hv)).mono ?_
 rintro e w6 ⟨rfl, q, rfl⟩
 have HB6 : Hid (Below w.heap.size w (W5.drewN q)) := below_drewN' HB5.out q
 have HK6 : Hid (Blk (W5.drewN q) w.heap.size 30 #[.slice An nn cn, .slice Ad nd cd]) := HK5.out
 have HG6 : Hid (Blk (W5.drewN q) (w.heap.size + 1) 35 #[.slice As n c, .slice Al nl cl, .slice At nt ct]) := HG5.out
 clear HB5 HK5 HG5 HQ5 HO5 hzq hz5
 generalize W5.drewN q = W6 at *
 have hz6 := HB6.out.size
 obtain ⟨lv, hlv⟩ : ∃ lv, lv = z.any (liveAt co) := ⟨_, rfl⟩
 rw [← hlv]
 have HLV := Lib.hid hlv
 clear hlv
 rcases lv with _ | _; rotate_left
 ·have HR : Hid (secB ns ds F ls z co ea = false) := by unfold Hid secB; rw [← HLV.out]; rfl
  go_wp2_with fail
  go_ret2
  exact ⟨.inr ⟨HE.out, co, HC, by rw [HR.out]; rfl⟩, HB6.out⟩
 go_wp2_with fail
 refine (contf_any 55 #[.pointer (some ⟨w.heap.size + 1, 0, none⟩)] (fun k => !hasLk F.ls k) (enters_of Tryz.func55 (by kernel_rfl) rfl) Am nm cm w.heap.size ls W6 (HM.out.below HB6.out (Nat.le_refl _)) hz6 (fun W d p q hb => (sec2_any (w.heap.size + 1) Al nl cl w.heap.size F.ls d p q W ((HG6.out.below hb HG6.out.lt).cell 1) ((HF.out.hl.below HB6.out (Nat.le_refl _)).below hb hz6) (by have := hb.size; omega)).mono fun _ _ h => ⟨h.1, hb.trans (h.2.mono hb.size)⟩)).mono ?_
 rintro e w7 ⟨rfl, hb7⟩
 have HB7 := Lib.hid (HB6.out.trans (hb7.mono hz6)); have HK7 := Lib.hid (HK6.out.below hb7 HK6.out.lt)
 clear hb7 HB6 HK6 HG6 hz6
 obtain ⟨av, hav⟩ : ∃ av, av = ls.any fun k => !hasLk F.ls k := ⟨_, rfl⟩
 rw [← hav]
 have HAV := Lib.hid hav
 clear hav
 rcases av with _ | _; rotate_left
 ·have HR : Hid (secB ns ds F ls z co ea = false) := by unfold Hid secB; rw [← HLV.out, ← HAV.out]; rfl
  go_wp2_with fail
  go_ret2
  exact ⟨.inr ⟨HE.out, co, HC, by rw [HR.out]; rfl⟩, HB7.out⟩
 rcases ea with _ | _
 ·have HR : Hid (secB ns ds F ls z co false = true) := by unfold Hid secB; rw [← HLV.out, ← HAV.out]; rfl
  go_wp2_with fail
  go_ret2
  exact ⟨.inr ⟨HE.out, co, HC, by rw [HR.out]; rfl⟩, HB7.out⟩
 ·have HR : Hid (secB ns ds F ls z co true = sidesB ns ds ls z) := by unfold Hid secB; rw [← HLV.out, ← HAV.out]; simp
  have HF7 := Lib.hid (HF.out.later HB7.out)
  have hz7 := HB7.out.size
  have HSD := Sides_any An Ad Am Az nn cn nd cd nm cm nz cz ns ds ls z w7 HF7.out.la HF7.out.hn HF7.out.hd ((HM.out.below HB7.out (Nat.le_refl _)).more hz7) ((HZ.out.below HB7.out (Nat.le_refl _)).more hz7) HF.out.sn HF.out.sd hnz hnd
  unfold SidesPost at HSD
  rw [HS0.out] at HSD
  have HSDH := Lib.hid HSD
  clear HSD
  have k0 : w7.cell? ⟨w.heap.size, 0, none⟩ = some (.slice An nn cn) := HK7.out.cell 0
  have k1 : w7.cell? ⟨w.heap.size, 1, none⟩ = some (.slice Ad nd cd) := HK7.out.cell 1
  go_wp2_with fail
  clear k0 k1
  refine HSDH.out.mono ?_
  rintro e w8 ⟨rfl, hb8⟩
  go_wp2_with fail
  go_ret2
  exact ⟨.inr ⟨HE.out, co, HC, by rw [HR.out]; simp⟩, HB7.out.trans (hb8.out.mono hz7)⟩
end Go.Proofs.YtepicjpdhpojnaaGreatDoor
