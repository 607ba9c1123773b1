/-
  Walks of layer 32: write, Write.
-/
import Derived.Test.YtmcedodejnnkmaaJourW1
import Derived.Deep.RegionHeld3
import Derived.Deep.DrawnRows
import Derived.Deep.RegionWith
namespace Go.Proofs.Ytmcedodejnnkmaa
open Go.RowKit
attribute [local go_sem ↓] Go.wp_at_zero Go.wp_at_succ

theorem str_info : (Try.prog.info? 5).map (fun i => (i.zero, i.size, i.bytes)) = some (some (.int .u8 0), 1, 1) := by kernel_rfl
set_option maxHeartbeats 2000000 in
theorem write_any (num : Nat) (before : BitVec 64) (p : ByteArray) (w : World) (hn : num ≤ 9223372036854775807) (hp : p.size ≤ 999999000) :
    Calls Try.prog 30 #[.agg #[.int .i64 num, .int .u64 before.toNat, .string p]] w fun e w' => e = .returned (.string (mkS (recJ num before (toL p)))) ∧ Below w.heap.size w w' := by
  have hbf := before.isLt
  have HBF := Lib.hid hbf; clear hbf
  have en : IntKind.u64.wrap (num : Int) = ((BitVec.ofNat 64 num).toNat : Int) := by rw [wrap_u64, BitVec.toNat_ofNat]; omega
  have enN : (BitVec.ofNat 64 num).toNat = num := by rw [BitVec.toNat_ofNat]; omega
  have ep : IntKind.u64.wrap (p.size : Int) = ((BitVec.ofNat 64 p.size).toNat : Int) := by rw [wrap_u64, BitVec.toNat_ofNat]; omega
  have epN : (BitVec.ofNat 64 p.size).toNat = p.size := by rw [BitVec.toNat_ofNat]; omega
  generalize BitVec.ofNat 64 num = numB at *
  generalize BitVec.ofNat 64 p.size = lenB at *
  have HEN := Lib.hid enN; have HEP := Lib.hid epN; clear enN epN
  go_enter Try.func30, Try.ntmps30
  go_wp2_with fail
  generalize hW : w.alloc (.cells #[.int .i64 num, .int .u64 before.toNat, .string p] 43) = W
  have hbx : Blk W w.heap.size 43 #[.int .i64 num, .int .u64 before.toNat, .string p] := hW ▸ Blk.new _ _ _
  have hbl : Below w.heap.size w W := hW ▸ (Below.refl _ _).alloc (Nat.le_refl _) _
  have hWs : W.heap.size = w.heap.size + 1 := by rw [← hW]; simp
  have c0 : W.cell? ⟨w.heap.size, 0, none⟩ = some (.int .i64 num) := hbx.cell 0
  have c1 : W.cell? ⟨w.heap.size, 1, none⟩ = some (.int .u64 before.toNat) := hbx.cell 1
  have c2 : W.cell? ⟨w.heap.size, 2, none⟩ = some (.string p) := hbx.cell 2
  have hw1 : w.heap.size < W.heap.size := by omega
  have HBX := Lib.hid hbx; have HBL := Lib.hid hbl; have HWS := Lib.hid hWs; clear hbx hbl hWs hW
  go_region_held3 (fun w' => w'.cell? ⟨w.heap.size, 0, none⟩ = some (.int .i64 num) ∧ w'.cell? ⟨w.heap.size, 1, none⟩ = some (.int .u64 before.toNat) ∧ w'.cell? ⟨w.heap.size, 2, none⟩ = some (.string p))
    (first | go_keep | exact ⟨hba.out.cell 0, hba.out.cell 1, hba.out.cell 2⟩ | exact ⟨hbb.out.cell 0, hbb.out.cell 1, hbb.out.cell 2⟩ | exact ⟨hbc.out.cell 0, hbc.out.cell 1, hbc.out.cell 2⟩)
    (first
      | (go_at_call_of 36 (Value.int .u64 (numB.toNat : Int)); refine (add_any none 0 0 W.heap.size [] numB 8 _ (World.ownsRow_nil _ _ _ _) (by simp) (by decide) (by decide)).mono ?_; rintro e wa ⟨Aa, ca, rfl, hoa, hga, hata⟩; have hba := Lib.hid (Blk.grown (w := W.drew) HBX.out hga.out (by simp [Value.ownBlock])); have hza : W.heap.size ≤ wa.heap.size := hga.out.size)
      | (go_at_call_of 36 (Value.int .u64 (before.toNat : Int)); refine (add_any Aa 8 ca W.heap.size (beB numB.toNat 8) before 8 _ (by exact hoa.out) hza (by decide) (by decide)).mono ?_; rintro e wb ⟨Ab, cb, rfl, hob, hgb, hatb⟩; have hbb := Lib.hid (hba.out.grown hgb.out (own_ne hoa.out hw1)); have hzb : W.heap.size ≤ wb.heap.size := Nat.le_trans hza hgb.out.size)
      | (go_at_call_of 36 (Value.int .u64 (lenB.toNat : Int)); refine (add_any Ab 16 cb W.heap.size (beB numB.toNat 8 ++ beB before.toNat 8) lenB 4 _ (by exact hob.out) hzb (by decide) (by decide)).mono ?_; rintro e wc ⟨Ac, cc, rfl, hoc, hgc, hatc⟩; have hbc := Lib.hid (hbb.out.grown hgc.out (own_ne hob.out hw1)); have hzc : W.heap.size ≤ wc.heap.size := Nat.le_trans hzb hgc.out.size))
  have hgc' : Below w.heap.size w wc := by
    refine (((HBL.out.drew.grown hga.out (Nat.le_of_lt hw1) ?_).grown hgb.out (by omega) ?_).grown hgc.out (by omega) ?_)
    · intro g hg; simp [Value.ownBlock] at hg
    · intro g hg; have := (hoa.out.lt g hg).1; omega
    · intro g hg; have := (hob.out.lt g hg).1; omega
  have c2 : wc.cell? ⟨w.heap.size, 2, none⟩ = some (.string p) := hbc.out.cell 2
  have hoc' : wc.ownsRow W.heap.size 5 1 (.slice Ac 20 cc) 20 (bytesV (beB numB.toNat 8 ++ beB before.toNat 8 ++ beB lenB.toNat 4)) := hoc.out
  have HOC := Lib.hid hoc'; have HGC := Lib.hid hgc'
  clear hoc' hgc' hoa hob hoc hga hgb hgc hata hatb hatc hba hbb hbc c0 c1 en ep
  have hhd : headJ num before (toL p) = beB numB.toNat 8 ++ beB before.toNat 8 ++ beB lenB.toNat 4 ++ toL p := by rw [headJ, HEN.out, HEP.out, toL_len]
  have HHD := Lib.hid hhd; clear hhd
  go_wp2_with (at_builtin; go_must (refine wpList_app_str rfl (.tmp 16) (.tmp 18) _ _ rfl Try.underlying31 Try.underlying9 str_info (by rfl) HOC.out (by rfl) (by omega) hzc ?_; intro Ad cd wd hod hgd; rw [← bytesV_append, ← HHD.out] at hod; have hcv := run_string_of (P := Try.prog) Try.underlying31 Try.underlying5 Try.underlying9 (Sl.of_own hod); have HOD := Lib.hid hod; clear hod))
  have hhl : (headJ num before (toL p)).length = 20 + p.size := by
    have := (Sl.of_own HOD.out).len (fun _ => rfl) (by decide)
    exact this
  have HHL := Lib.hid hhl
  refine (sum_any _ _ (by rw [size_mk, hhl]; omega)).mono ?_
  rintro e w5 ⟨rfl, rfl⟩
  rw [toL_mk]
  have hzd : W.heap.size ≤ wd.heap.size := Nat.le_trans hzc hgd.size
  clear hcv hhl
  go_wp2_with fail
  refine (add_any _ _ _ W.heap.size (headJ num before (toL p)) (sumJ (headJ num before (toL p))) 8 _ HOD.out hzd (by decide) (by omega)).mono ?_
  rintro e w6 ⟨A6, c6, rfl, ho6, hg6, hat6⟩
  have hcv := run_string_of (P := Try.prog) Try.underlying31 Try.underlying5 Try.underlying9 (Sl.of_own ho6.out)
  go_wp2_with fail
  go_ret
  refine ⟨rfl, (HGC.out.grown hgd (by omega) ?_).grown hg6.out (by omega) ?_⟩
  · intro g hg; have := (HOC.out.lt g hg).1; omega
  · intro g hg; have := (HOD.out.lt g hg).1; omega

/-- A string and an error are returned. -/
def RetStr (w : World) (l : List UInt8) (er : Int) (e : Ending) (w' : World) : Prop := e = .returned (.tuple #[.string (mkS l), .int .i64 er]) ∧ Below w.heap.size w w'
def writeE (num : Int) (p : List UInt8) : Int := if num < 1 ∨ 1024 < num then 5 else if 16384 < p.length then 1 else 0
def writeJ (num : Int) (before : BitVec 64) (p : List UInt8) : List UInt8 := if writeE num p = 0 then recJ num.toNat before p else []
end Go.Proofs.Ytmcedodejnnkmaa
