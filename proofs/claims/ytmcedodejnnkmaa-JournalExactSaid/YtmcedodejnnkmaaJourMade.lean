/-
  Walk of the statements' maker of journals, and of Mod.
-/
import Derived.Test.YtmcedodejnnkmaaJourAw
namespace Go.Proofs.Ytmcedodejnnkmaa
open Go.RowKit

def strsV (ps : List (List UInt8)) : List Value := ps.flatMap fun p => [Value.string (mkS p)]
theorem el_str : ElemI Try.prog 27 9 1 16 := ElemI.mk' (z := .string ⟨#[]⟩) Try.underlying27 (by kernel_rfl) rfl (by decide)
def Short (ps : List (List UInt8)) : Prop := ∀ p ∈ ps, p.length ≤ 29
theorem Short.small {ps : List (List UInt8)} (h : Short ps) : Small ps := fun p hp => Nat.le_trans (h p hp) (by decide)
theorem Short.len {ps : List (List UInt8)} (h : Short ps) : (chain 0 0#64 ps).length ≤ 57 * ps.length := by
  rw [chain_len]
  induction ps with
  | nil => simp
  | cons p ps ih =>
    have := ih (fun q hq => h q (List.mem_cons_of_mem _ hq))
    have := h p (List.mem_cons_self ..)
    simp only [List.map_cons, List.sum_cons, List.length_cons]; omega
/-- A journal of at most so many records, and its payloads; only the deck has changed. -/
def MadePost (w : World) (g most : Nat) (e : Ending) (w' : World) : Prop :=
  ∃ (ps : List (List UInt8)) (A : Option Addr) (c : Nat), e = .returned (.tuple #[.string (mkS (chain 0 0#64 ps)), .slice A ps.length c]) ∧ ps.length ≤ most ∧ Hid (Short ps) ∧ Hid (w'.ownsRow w.heap.size 9 1 (.slice A ps.length c) ps.length (strsV ps)) ∧ Hid (DeckAt w' g) ∧ Hid (w.grownBy w' (some g))

set_option maxHeartbeats 2000000 in
theorem made_any (g most : Nat) (w : World) (hd : DeckAt w g) (hm : most ≤ 1000) : Calls Try.prog 12 #[.pointer (some ⟨g, 0, none⟩), .int .i64 most] w (MadePost w g most) := by
  have hlt := hd.lt
  have HD := Lib.hid hd; clear hd
  go_enter Try.func12, Try.ntmps12
  go_wp2_with fail
  refine (next_any g _ _ HD.out (by omega)).mono ?_
  rintro e w1 ⟨k, rfl, hk0, _, hk1, HD1, HG1, HS1⟩
  replace hk1 := hk1.out (by omega)
  go_wp2_with fail
  go_loopw [6, 7, 8] (fun s t i wr => ∃ (k n c : Nat) (S : ByteArray) (A : Option Addr) (ps : List (List UInt8)), i = .int .i64 k ∧ s = .string S ∧ t = .slice A n c ∧ k + n ≤ most ∧ Hid (ps.length = n) ∧ Hid (S = mkS (chain 0 0#64 ps)) ∧ Hid (Short ps) ∧ Hid (wr.ownsRow w.heap.size 9 1 (.slice A n c) n (strsV ps)) ∧
    Hid (DeckAt wr g) ∧ Hid (w.grownBy wr (some g))) (fun _ _ i _ => (intOf i).toNat)
  case atStart => exact ⟨k.toNat, 0, 0, ⟨#[]⟩, none, [], by rw [Int.toNat_of_nonneg hk0], rfl, rfl, by omega, rfl, rfl, (fun x hx => by cases hx), World.ownsRow_nil _ _ _ _, HD1, HG1⟩
  case round =>
    obtain ⟨k, n, c, S, A, ps, rfl, rfl, rfl, hkn, hpl, hS, hsh, hown, hdk, hgw⟩ := hrel
    have hsz : w.heap.size ≤ wr.heap.size := hgw.out.size
    by_cases hk : 0 < k
    · have hki : decide ((0 : Int) < (k : Int)) = true := by simp; omega
      go_wp2_with fail
      refine (next_any g 30 _ hdk.out (by decide)).mono ?_
      rintro e w2 ⟨m, rfl, hm0, _, hm1, HD2, HG2, HS2⟩
      replace hm1 := hm1.out (by decide)
      go_wp2_with fail
      go_loopw [9, 10] (fun q i wi => ∃ (m : Nat) (P : ByteArray), i = .int .i64 m ∧ q = .string P ∧ m + P.size ≤ 29 ∧ Hid (DeckAt wi g) ∧ Hid (wr.grownBy wi (some g))) (fun _ i _ => (intOf i).toNat)
      case atStart => exact ⟨m.toNat, ⟨#[]⟩, by rw [Int.toNat_of_nonneg hm0], rfl, by show m.toNat + 0 ≤ 29; omega, HD2, HG2⟩
      case round =>
        obtain ⟨m, P, rfl, rfl, hmP, hdi, hgi⟩ := hrel
        by_cases hm : 0 < m
        · have hmi : decide ((0 : Int) < (m : Int)) = true := by simp; omega
          go_wp2_with fail
          refine (next_any g 256 _ hdi.out (by decide)).mono ?_
          rintro e w3 ⟨x, rfl, hx0, _, hx1, HD3, HG3, HS3⟩
          replace hx1 := hx1.out (by decide)
          have hcv := run_one w3 x (by omega) (by omega)
          have hsz2 : P.size + (mkS [UInt8.ofNat x.toNat]).size ≤ 9223372036854775807 := by rw [size_mk, List.length_singleton]; omega
          go_wp2_with fail
          go_roundw
          case rel =>
            refine ⟨m - 1, _, by rw [show ((m - 1 : Nat) : Int) = (m : Int) - 1 from by omega], rfl, ?_, HD3.out.alloc _, grown_alloc (grown_trans hgi.out HG3.out) _⟩
            rw [← toL_len, toL_append, List.length_append, toL_len, toL_len, size_mk, List.length_singleton]; omega
          case measure => simp [intOf]; omega
        · obtain rfl : m = 0 := by omega
          have hSl : S.size ≤ 57 * n := by rw [hS.out, size_mk, ← hpl.out]; exact hsh.out.len
          have ha := app_chain ps (toL P) hsh.out.small (by rw [hpl.out]; omega) (by rw [toL_len]; omega)
          have HA := Lib.hid ha; clear ha
          go_wp2_with fail
          refine (rappend_any S P _ (by omega) (by omega)).mono ?_
          rintro e w3 ⟨rfl, hb3⟩
          rw [hS.out, toL_mk, HA.out.1, HA.out.2]
          have hnv : (Value.slice A n c).ownBlock = none ∨ (Value.slice A n c).ownBlock ≠ some g := by
            cases hv : (Value.slice A n c).ownBlock with
            | none => exact .inl rfl
            | some b => exact .inr (fun e => by injection e with e; have := (hown.out.lt b hv).1; omega)
          have ho3 := own_below (hown.out.kept hgi.out hnv) hb3
          have hz3 : w.heap.size ≤ w3.heap.size := Nat.le_trans hsz (Nat.le_trans hgi.out.size hb3.size)
          have HO3 := Lib.hid ho3; clear ho3
          go_wp2_with (at_builtin; go_must (refine wpList_app rfl (.tmp 38) (.tmp 40) rfl el_str (by rfl) (HO3.out.alloc _) (by rfl) (Sl.newest (n := 1) (by simp) (by rfl) (by decide)) (by simp [Value.oneCell']) (by omega) (by omega) (by simp; omega) ?_; intro A' cap' w4 hown4 hgr4 hat4))
          go_roundw
          case rel =>
            refine ⟨k - 1, n + 1, cap', _, A', ps ++ [toL P], by rw [show ((k - 1 : Nat) : Int) = (k : Int) - 1 from by omega], rfl, rfl, by omega, by unfold Hid; rw [List.length_append, hpl.out]; rfl, rfl, ?_, ?_, ?_, ?_⟩
            · intro q hq
              rcases List.mem_append.1 hq with h | h
              · exact hsh.out q h
              · rw [List.mem_singleton.1 h, toL_len]; omega
            · unfold Hid
              rw [strsV, List.flatMap_append]
              have : (List.flatMap (fun p => [Value.string (mkS p)]) [toL P]) = [Value.string P] := by simp [mk_toL]
              rw [this]
              exact hown4
            · exact ((hdi.out.below hb3 (hdi.out.lt)).alloc _).grown hgr4 (fun b hb => by have := (HO3.out.lt b hb).1; omega)
            · exact grown_new (grown_alloc (grown_trans (grown_trans hgw.out hgi.out) (grown_of_below hb3 _)) _) hgr4 (fun b hb => by have := (HO3.out.lt b hb).1; omega)
          case measure => simp [intOf]; omega
    · obtain rfl : k = 0 := by omega
      go_wp2_with fail
      go_ret2
      obtain rfl := hpl.out
      exact ⟨ps, A, c, by rw [← hS.out]; rfl, by omega, hsh, hown, hdk, hgw⟩

theorem mod_any (a n : Int) (w : World) (h1 : 1 ≤ n) (h2 : n ≤ 1000000000) : Calls Try.prog 13 #[.int .i64 a, .int .i64 n] w fun e w' => (∃ k : Nat, e = .returned (.int .i64 k) ∧ (k : Int) < n) ∧ w = w' := by
  have hm1 := Int.tmod_lt_of_pos a (show (0 : Int) < n by omega)
  have hm0 : -n < a.tmod n := by
    have := Int.lt_tmod_of_pos a (show (0 : Int) < n by omega)
    exact this
  have h3 := Int.emod_lt_of_pos (a.tmod n + n) (show (0 : Int) < n by omega)
  have h4 : 0 ≤ (a.tmod n + n) % n := Int.emod_nonneg _ (by omega)
  have hn0 : (n == 0) = false := by simpa using by omega
  go_enter Try.func13, Try.ntmps13
  go_wp2
  go_ret
  refine ⟨⟨((a.tmod n + n) % n).toNat, ?_, by omega⟩, rfl⟩
  rw [Int.toNat_of_nonneg h4]
  rfl
end Go.Proofs.Ytmcedodejnnkmaa
