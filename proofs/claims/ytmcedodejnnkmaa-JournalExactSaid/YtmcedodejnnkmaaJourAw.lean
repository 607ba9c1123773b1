/-
  Walks of layer 32: the statements' sanity check 'awake' returns true; the maker of journals.
-/
import Derived.Test.YtmcedodejnnkmaaJourR4
import Derived.Test.YtmcedodejnnkmaaJourP
namespace Go.Proofs.Ytmcedodejnnkmaa
open Go.RowKit
theorem app_chain (ps : List (List UInt8)) (p : List UInt8) (hs : Small ps) (hk : ps.length < 1024) (hp : p.length ≤ 16384) : appE (chain 0 0#64 ps) p = 0 ∧ appJ (chain 0 0#64 ps) p = chain 0 0#64 (ps ++ [p]) := by
  have hr := readJ_chain ps hs (by omega)
  have he : appE (chain 0 0#64 ps) p = 0 := by
    rw [appE, hr]
    simp only [recsOf_len]
    rw [if_neg (by simp), if_neg (by omega), if_neg (by omega)]
  refine ⟨he, ?_⟩
  rw [appJ, if_pos he, hr, chain_append]
  simp only [recsOf_len, chain, List.append_nil, Nat.zero_add]
def abL : List UInt8 := [97, 98]
theorem ab_mk : (⟨#[97, 98]⟩ : ByteArray) = mkS abL := rfl
theorem toL_ab : toL ⟨#[97, 98]⟩ = abL := rfl
theorem toL_empty : toL ⟨#[]⟩ = [] := rfl
theorem small2 : Small [abL, []] := fun p hp => by simp [abL] at hp; rcases hp with rfl | rfl <;> simp
theorem small1 : Small [abL] := fun p hp => small2 p (by simp at hp; simp [hp])
set_option maxHeartbeats 2000000 in
theorem awake_any (w : World) : Calls Try.prog 9 #[] w fun e w' => e = .returned (.bool true) ∧ Below w.heap.size w w' := by
  have h1 : appE [] abL = 0 ∧ appJ [] abL = chain 0 0#64 [abL] := app_chain [] abL (fun p hp => by cases hp) (by decide) (by decide)
  have h2 : appE (chain 0 0#64 [abL]) [] = 0 ∧ appJ (chain 0 0#64 [abL]) [] = chain 0 0#64 [abL, []] := app_chain [abL] [] small1 (by decide) (by decide)
  have h3 := readJ_chain [abL, []] small2 (by decide)
  have hl : (chain 0 0#64 [abL, []]).length = 58 := by rw [chain_len]; decide
  have hl1 : (chain 0 0#64 [abL]).length = 30 := by rw [chain_len]; decide
  have H1 := Lib.hid h1; have H2 := Lib.hid h2; have H3 := Lib.hid h3; have HL := Lib.hid hl; have HL1 := Lib.hid hl1; clear h1 h2 h3 hl hl1
  go_enter Try.func9, Try.ntmps9
  go_wp2_with fail
  refine (Append_any ⟨#[]⟩ ⟨#[97, 98]⟩ w (by decide) (by decide)).mono ?_
  rintro e w1 ⟨rfl, hb1⟩
  rw [toL_empty, toL_ab, H1.out.1, H1.out.2]
  go_wp2_with fail
  refine (Append_any (mkS (chain 0 0#64 [abL])) ⟨#[]⟩ _ (by rw [size_mk, HL1.out]; decide) (by decide)).mono ?_
  rintro e w2 ⟨rfl, hb2⟩
  rw [toL_empty, toL_mk, H2.out.1, H2.out.2]
  go_wp2_with fail
  refine (Read_any (mkS (chain 0 0#64 [abL, []])) _ (by rw [size_mk, HL.out]; decide)).mono ?_
  rintro e w3 ⟨A, c, rfl, ho3, hb3⟩
  rw [toL_mk, H3.out, HL.out] at ho3 ⊢
  have hb : Below w.heap.size w w3 := (hb1.trans (hb2.mono hb1.size)).trans (hb3.mono (Nat.le_trans hb1.size hb2.size))
  simp only [recsOf_len, List.length_cons, List.length_nil, Nat.zero_add, Nat.reduceAdd] at ho3 ⊢
  obtain ⟨b0, off, r0, e0, _, hr0, hc0⟩ := (Sl.of_own ho3).at (k := 0) (fun _ => rfl) (by decide) (by decide)
  obtain ⟨b1, off1, r1, e1, _, hr1, hc1⟩ := (Sl.of_own ho3).at (k := 1) (fun _ => rfl) (by decide) (by decide)
  subst e0
  injection e1 with e1
  injection e1 with e1 e2 _
  subst e1 e2
  have hp0 : w3.cell? ⟨b0, off + 2, none⟩ = some (.string ⟨#[97, 98]⟩) := by
    have := hc0 2 (.string (mkS r0.payload)) rfl
    simp [recsOf] at hr0
    rw [← hr0] at this
    rw [ab_mk]
    simpa using this
  have hn1 : w3.cell? ⟨b0, off + 3, none⟩ = some (.int .i64 2) := by
    have := hc1 0 (.int .i64 r1.number) rfl
    simp [recsOf] at hr1
    rw [← hr1] at this
    simpa using this
  clear hc0 hc1 hr0 hr1 ho3 hb1 hb2 hb3
  go_wp2_with fail
  refine (sum_any ⟨#[]⟩ _ (by decide)).mono ?_
  rintro e w4 ⟨rfl, rfl⟩
  rw [show sumJ (toL ⟨#[]⟩) = 14695981039346656037#64 from rfl]
  go_wp2_with fail
  go_ret
  exact ⟨rfl, hb⟩
end Go.Proofs.Ytmcedodejnnkmaa
