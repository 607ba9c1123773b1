/-
  Walks of layer 9: size.
-/
import Derived.Test.YtjinhfomfbcnjaaTeleW3
namespace Go.Proofs.Ytjinhfomfbcnjaa
open Go.RowKit
/-- How many bytes the frame at the beginning of l has; 0 if there cannot be one. -/
def sizeT (l : List UInt8) : Nat :=
  if l.length < 6 then 0 else if l.getD 0 0 ≠ 104 then 0 else if 32 < (l.getD 3 0).toNat then 0 else 6 + 5 * (l.getD 3 0).toNat

theorem Sl.bytes {w : World} {B n c : Nat} {A : Option Addr} {l : List UInt8} (h : Sl w B 1 A n c (bytesV l)) (hn : 0 < n) :
    ∃ b off, A = some ⟨b, off, none⟩ ∧ b < B ∧ ∀ k, k < n → w.cell? ⟨b, off + k, none⟩ = some (.int .u8 (l.getD k 0).toNat) := by
  obtain ⟨b, off, x, rfl, hb, _, _⟩ := h.at1 hn
  refine ⟨b, off, rfl, hb, fun k hk => ?_⟩
  obtain ⟨b', off', x', e, _, hx', hc'⟩ := h.at1 hk
  injection e with e
  injection e with e1 e2 _
  subst e1 e2
  rw [hc', List.getD_eq_getElem?_getD, hx']; rfl
theorem u8_ne {x y : UInt8} (h : x ≠ y) : (x.toNat : Int) ≠ y.toNat := fun e => h (UInt8.toNat_inj.1 (by omega))
set_option maxHeartbeats 400000 in
theorem size_any (A : Option Addr) (n c B : Nat) (l : List UInt8) (w : World) (hr : Sl w B 1 A n c (bytesV l)) : Calls Try.prog 33 #[.slice A n c] w fun e w' => e = .returned (.int .i64 (sizeT l)) ∧ w = w' := by
  have hln := hr.len (fun _ => rfl) (by decide)
  obtain ⟨hnc, hcm⟩ := hr.le
  by_cases h6 : n < 6
  · have HE : Hid (sizeT l = 0) := by unfold Hid; rw [sizeT, if_pos (by omega)]
    clear hln hr
    go_enter Try.func33, Try.ntmps33
    go_wp2
    go_ret
    exact ⟨ret_int (by rw [HE.out]; rfl), rfl⟩
  have h6' : decide ((n : Int) < 6) = false := by simp; omega
  obtain ⟨b, off, rfl, hb, hc⟩ := hr.bytes (by omega)
  have c0 : w.cell? ⟨b, off, none⟩ = some (.int .u8 (l.getD 0 0).toNat) := hc 0 (by omega)
  have hn0 : 0 < n := by omega
  have hn3 : (3 : Int) < (n : Int) := by omega
  have c3 := hc 3 (by omega)
  have HE : Hid (sizeT l = if l.getD 0 0 ≠ 104 then 0 else if 32 < (l.getD 3 0).toNat then 0 else 6 + 5 * (l.getD 3 0).toNat) := by unfold Hid; rw [sizeT, if_neg (by omega)]
  clear hc hln hr
  generalize l.getD 0 0 = x0 at *
  generalize l.getD 3 0 = x3 at *
  have hx0 : x0.toNat < 256 := x0.toNat_lt
  have hx3 : x3.toNat < 256 := x3.toNat_lt
  by_cases e0 : x0 = 104; rotate_left
  · have q0 : ((x0.toNat : Int) != 104) = true := by simpa using u8_ne e0
    have HF : Hid (sizeT l = 0) := by unfold Hid; rw [HE.out, if_pos e0]
    clear e0
    go_enter Try.func33, Try.ntmps33
    go_wp2
    go_ret
    exact ⟨ret_int (by rw [HF.out]; rfl), rfl⟩
  subst e0
  by_cases e3 : 32 < x3.toNat
  · have q3 : decide ((32 : Int) < (x3.toNat : Int)) = true := by simp; omega
    have HF : Hid (sizeT l = 0) := by unfold Hid; rw [HE.out, if_neg (by simp), if_pos e3]
    go_enter Try.func33, Try.ntmps33
    go_wp2
    go_ret
    exact ⟨ret_int (by rw [HF.out]; rfl), rfl⟩
  have q3 : decide ((32 : Int) < (x3.toNat : Int)) = false := by simp; omega
  have HF : Hid (sizeT l = 6 + 5 * x3.toNat) := by unfold Hid; rw [HE.out, if_neg (by simp), if_neg e3]
  go_enter Try.func33, Try.ntmps33
  go_wp2
  go_ret
  exact ⟨ret_int (by rw [HF.out]; simp; omega), rfl⟩
end Go.Proofs.Ytjinhfomfbcnjaa
