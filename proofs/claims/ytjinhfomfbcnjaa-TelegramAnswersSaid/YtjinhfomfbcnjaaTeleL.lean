/-
  Lists of telegrams in memory; parts of slices of bytes; walk of the references' Same.
-/
import Derived.Test.YtjinhfomfbcnjaaTeleS
import Derived.Test.YtjinhfomfbcnjaaTeleW6
namespace Go.Proofs.Ytjinhfomfbcnjaa
open Go.RowKit
attribute [local go_sem ↓] Go.wp_at_zero Go.wp_at_succ

/-- The address of x[k:] where x has capacity c. -/
def cutA (A : Option Addr) (c k : Nat) : Option Addr := if c = k then A else A.map (·.add k)
theorem run_from (w : World) (A : Option Addr) (n c k : Nat) (hk : k ≤ n) : (Instr.sliceAt 42 (.slice A n c) (some (.int .i64 (k : Int))) none none).run Try.prog w = .ok (.slice (cutA A c k) (n - k) (c - k)) w := by
  rw [run_sliceAt_slice _ _ _ _ _ _ (by kernel_rfl), run_slice_l _ _ _ _ _ (by kernel_rfl) _ _ (by omega) (by omega)]
  have : (sizeOf (Try.prog.elem 42)).run Try.prog w = .ok 1 w := by kernel_rfl
  rw [this]
  simp [sliced, cutA, Result.andThen]
theorem bytes_map (l : List UInt8) : bytesV l = l.map fun x => Value.int .u8 x.toNat := by
  unfold bytesV
  induction l with
  | nil => rfl
  | cons x l ih => rw [List.flatMap_cons, ih]; rfl
theorem bytesV_drop (l : List UInt8) (k : Nat) : bytesV (l.drop k) = (bytesV l).drop k := by rw [bytes_map, bytes_map, List.map_drop]
theorem bytesV_take (l : List UInt8) (k : Nat) : bytesV (l.take k) = (bytesV l).take k := by rw [bytes_map, bytes_map, List.map_take]
theorem Sl.cut {w : World} {B n c k : Nat} {A : Option Addr} {l : List UInt8} (h : Sl w B 1 A n c (bytesV l)) (hk : k ≤ n) : Sl w B 1 (cutA A c k) (n - k) (c - k) (bytesV (l.drop k)) := by
  have hl : l.length = n := h.len (fun _ => rfl) (by decide)
  obtain ⟨h1, h2, h3, h4, h5⟩ := h
  refine ⟨?_, by omega, by omega, ?_, ?_⟩
  · rw [bytesV_drop, List.length_drop, h1]; omega
  · intro e
    unfold cutA at e
    split at e
    · omega
    · cases A with
      | none => have := h4 rfl; omega
      | some a => simp at e
  · intro h0
    obtain ⟨b, off, rfl, hb, hc⟩ := h5 (by omega)
    refine ⟨b, off + k, ?_, hb, fun j u hu => ?_⟩
    · rw [cutA, if_neg (by omega), Option.map_some, add_plain]
    · rw [bytesV_drop, List.getElem?_drop] at hu
      rw [Nat.add_assoc]; exact hc _ _ hu
theorem Sl.upto {w : World} {B n c k : Nat} {A : Option Addr} {l : List UInt8} (h : Sl w B 1 A n c (bytesV l)) (hk : k ≤ n) : Sl w B 1 A k c (bytesV (l.take k)) := by
  have hl : l.length = n := h.len (fun _ => rfl) (by decide)
  obtain ⟨h1, h2, h3, h4, h5⟩ := h
  refine ⟨?_, by omega, h3, h4, ?_⟩
  · rw [bytesV_take, List.length_take, h1]; omega
  · intro h0
    obtain ⟨b, off, rfl, hb, hc⟩ := h5 (by omega)
    refine ⟨b, off, rfl, hb, fun j u hu => ?_⟩
    rw [bytesV_take, List.getElem?_take] at hu
    split at hu
    · exact hc _ _ hu
    · cases hu

structure TRow where
  st : Int
  sq : Int
  A : Option Addr
  n : Nat
  c : Nat
def TRow.cells (r : TRow) : List Value := [.int .i64 r.st, .int .i64 r.sq, .slice r.A r.n r.c]
/-- The row r holds the telegram t, also when block 'row' alone is changed. -/
def TOk (w : World) (row : Option Nat) (r : TRow) (t : Tele) : Prop := r.st = t.st ∧ r.sq = t.sq ∧ ∀ w', w.grownBy w' row → Sl w' w.heap.size 4 r.A r.n r.c (t.items.flatMap Item.cells)
/-- The slice holds the telegrams ts. -/
def OwnT (w : World) (base : Nat) (A : Option Addr) (n c : Nat) (ts : List Tele) : Prop :=
  ∃ rows : List TRow, rows.length = ts.length ∧ w.ownsRow base 31 3 (.slice A n c) n (rows.flatMap TRow.cells) ∧ ∀ (i : Nat) (r : TRow) (t : Tele), rows[i]? = some r → ts[i]? = some t → TOk w (Value.slice A n c).ownBlock r t
theorem el_tele : ElemI Try.prog 49 31 3 40 := ElemI.mk' (z := .agg #[.int .i64 0, .int .i64 0, .slice none 0 0]) Try.underlying49 (by kernel_rfl) rfl (by decide)
theorem OwnT.nil (w : World) (base : Nat) : OwnT w base none 0 0 [] := ⟨[], rfl, World.ownsRow_nil _ _ _ _, fun i r t h => by simp at h⟩
theorem TOk.keep {w w1 : World} {row row1 : Option Nat} {r : TRow} {t : Tele} (h : TOk w row r t) (hs : w.heap.size ≤ w1.heap.size) (hg : ∀ w2, w1.grownBy w2 row1 → w.grownBy w2 row) : TOk w1 row1 r t :=
  ⟨h.1, h.2.1, fun w2 hw => (h.2.2 w2 (hg w2 hw)).more hs⟩
theorem OwnT.len {w : World} {base : Nat} {A : Option Addr} {n c : Nat} {ts : List Tele} (h : OwnT w base A n c ts) : ts.length = n := by
  obtain ⟨rows, hl, ho, _⟩ := h
  rw [← hl]
  exact (Sl.of_own ho).len (fun _ => rfl) (by decide)
theorem OwnT.lt {w : World} {base : Nat} {A : Option Addr} {n c : Nat} {ts : List Tele} (h : OwnT w base A n c ts) : ∀ g, (Value.slice A n c).ownBlock = some g → base ≤ g ∧ g < w.heap.size := by
  obtain ⟨rows, hl, ho, _⟩ := h
  exact ho.lt
theorem OwnT.grown {w w1 : World} {base : Nat} {A : Option Addr} {n c : Nat} {ts : List Tele} (h : OwnT w base A n c ts) {row : Option Nat} (hg : w.grownBy w1 row) (hr : ∀ g, row = some g → g < base) (hT : ∀ r t, TOk w (Value.slice A n c).ownBlock r t → TOk w1 (Value.slice A n c).ownBlock r t) : OwnT w1 base A n c ts := by
  obtain ⟨rows, hl, ho, ht⟩ := h
  refine ⟨rows, hl, ho.kept hg ?_, fun i r t hr ht' => hT r t (ht i r t hr ht')⟩
  cases hv : (Value.slice A n c).ownBlock with
  | none => exact .inl rfl
  | some b => exact .inr fun e => by have := (ho.lt b hv).1; have := hr b e.symm; omega
theorem OwnT.below {w w1 : World} {base : Nat} {A : Option Addr} {n c : Nat} {ts : List Tele} (h : OwnT w base A n c ts) (hb : Below w.heap.size w w1) : OwnT w1 base A n c ts := by
  have hg := grown_of_below hb none
  exact h.grown hg (fun g e => by cases e) fun r t ht => ht.keep hb.size fun w2 h2 => grown_trans (grown_of_below hb _) h2
theorem OwnT.drew {w : World} {base : Nat} {A : Option Addr} {n c : Nat} {ts : List Tele} (h : OwnT w base A n c ts) : OwnT w.drew base A n c ts := h.below (Below.refl _ _).drew
theorem OwnT.alloc {w : World} {base : Nat} {A : Option Addr} {n c : Nat} {ts : List Tele} (h : OwnT w base A n c ts) (o : Obj) : OwnT (w.alloc o) base A n c ts := h.below ((Below.refl _ _).alloc (Nat.le_refl _) _)
/-- What an append of one telegram leaves. -/
theorem OwnT.push {w w1 : World} {base : Nat} {A A1 : Option Addr} {n c c1 : Nat} {ts : List Tele} {rows : List TRow} (hl : rows.length = ts.length) (ht : ∀ (i : Nat) (r : TRow) (t : Tele), rows[i]? = some r → ts[i]? = some t → TOk w (Value.slice A n c).ownBlock r t) {r : TRow} {t : Tele} (hr : TOk w (Value.slice A n c).ownBlock r t)
    (ho1 : w1.ownsRow base 31 3 (.slice A1 (n + 1) c1) (n + 1) (rows.flatMap TRow.cells ++ r.cells)) (hg : w.grownBy w1 (Value.slice A n c).ownBlock) (hv : (Value.slice A1 (n + 1) c1).ownBlock = (Value.slice A n c).ownBlock ∨ (Value.slice A1 (n + 1) c1).ownBlock = some w.heap.size) : OwnT w1 base A1 (n + 1) c1 (ts ++ [t]) := by
  have hk : ∀ r t, TOk w (Value.slice A n c).ownBlock r t → TOk w1 (Value.slice A1 (n + 1) c1).ownBlock r t := fun r t h => by
    refine h.keep hg.size fun w2 h2 => ?_
    rcases hv with e | e
    · rw [e] at h2; exact grown_trans hg h2
    · rw [e] at h2; exact grown_new hg h2 fun g hg => by injection hg with hg; omega
  refine ⟨rows ++ [r], by simp [hl], by simpa using ho1, fun i r' t' h1 h2 => ?_⟩
  rcases Nat.lt_or_ge i rows.length with hlt | hge
  · rw [List.getElem?_append_left hlt] at h1
    rw [List.getElem?_append_left (by omega)] at h2
    exact hk _ _ (ht i _ _ h1 h2)
  · rw [List.getElem?_append_right hge] at h1
    rw [List.getElem?_append_right (by omega)] at h2
    have hi : i - rows.length = 0 := by
      rcases Nat.eq_zero_or_pos (i - rows.length) with h | h
      · exact h
      · rw [List.getElem?_eq_none (by simp; omega)] at h1; cases h1
    rw [hi] at h1
    rw [show i - ts.length = 0 from by omega] at h2
    simp at h1 h2
    subst h1 h2
    exact hk _ _ hr
/-- A telegram that was just made may be appended to a list that was there before. -/
theorem TOk.fresh {w0 w : World} {base : Nat} {A Ai : Option Addr} {n c ni ci : Nat} {ts : List Tele} {st sq : Int} {l : List Item} (h : OwnT w0 base A n c ts) (ho : w.ownsRow w0.heap.size 38 4 (.slice Ai ni ci) ni (l.flatMap Item.cells)) : TOk w (Value.slice A n c).ownBlock ⟨st, sq, Ai, ni, ci⟩ ⟨st, sq, l⟩ := by
  refine ⟨rfl, rfl, fun w2 hg => ?_⟩
  have := (ho.kept hg (by
    cases hv : (Value.slice Ai ni ci).ownBlock with
    | none => exact .inl rfl
    | some b => exact .inr fun e => by have := (ho.lt b hv).1; have := (h.lt b e.symm).2; omega))
  have h2 := Sl.of_own this
  refine ⟨h2.1, h2.2.1, h2.2.2.1, h2.2.2.2.1, fun h0 => ?_⟩
  obtain ⟨b, off, e, _, hc⟩ := h2.2.2.2.2 h0
  obtain ⟨b', off', e', hb', _⟩ := (Sl.of_own ho).2.2.2.2 h0
  rw [e] at e'
  injection e' with e'
  injection e' with e1 e2
  exact ⟨b, off, e, by omega, hc⟩
theorem OwnT.at {w : World} {base : Nat} {A : Option Addr} {n c k : Nat} {ts : List Tele} (h : OwnT w base A n c ts) (hk : k < n) :
    ∃ (b : Nat) (r : TRow) (t : Tele), A = some ⟨b, 0, none⟩ ∧ b < w.heap.size ∧ ts[k]? = some t ∧ r.st = t.st ∧ r.sq = t.sq ∧ Sl w w.heap.size 4 r.A r.n r.c (t.items.flatMap Item.cells) ∧ w.cell? ⟨b, k * 3, none⟩ = some (.int .i64 r.st) ∧ w.cell? ⟨b, k * 3 + 1, none⟩ = some (.int .i64 r.sq) ∧ w.cell? ⟨b, k * 3 + 2, none⟩ = some (.slice r.A r.n r.c) := by
  have hlen := h.len
  obtain ⟨rows, hl, ho, ht⟩ := h
  obtain ⟨b, off, r, e, hb, hr, hc⟩ := (Sl.of_own ho).at (fun _ => rfl) (by decide) hk
  have h0 : off = 0 := by
    rcases ho.2 with ⟨hv, hn⟩ | ⟨g, cap, cur, hv, _⟩
    · rw [hn] at hk; omega
    · injection hv with hv
      rw [e] at hv
      injection hv with hv
      injection hv with _ hv
  subst h0
  simp only [Nat.zero_add] at hc
  obtain ⟨e1, e2, e3⟩ := ht k r (ts[k]'(by omega)) hr (List.getElem?_eq_getElem (by omega))
  exact ⟨b, r, _, e, hb, List.getElem?_eq_getElem (by omega), e1, e2, e3 w (grown_refl _ _), hc 0 _ rfl, hc 1 _ rfl, hc 2 _ rfl⟩

set_option maxHeartbeats 1000000 in
theorem same_any (st sq : Int) (A1 A2 : Option Addr) (n1 n2 c1 c2 B1 B2 : Nat) (l : List Item) (w : World) (h1 : Sl w B1 4 A1 n1 c1 (l.flatMap Item.cells)) (h2 : Sl w B2 4 A2 n2 c2 (l.flatMap Item.cells)) (hB1 : B1 ≤ w.heap.size) (hB2 : B2 ≤ w.heap.size) :
    Calls Try.prog 18 #[.agg #[.int .i64 st, .int .i64 sq, .slice A1 n1 c1], .agg #[.int .i64 st, .int .i64 sq, .slice A2 n2 c2]] w fun e w' => e = .returned (.bool true) ∧ Below w.heap.size w w' := by
  have hl1 := h1.len (fun _ => rfl) (by decide)
  have hl2 := h2.len (fun _ => rfl) (by decide)
  obtain rfl : n1 = n2 := by omega
  obtain ⟨hc1, hc2⟩ := h1.le
  obtain ⟨hc3, hc4⟩ := h2.le
  have HL := Lib.hid hl1
  have H1 := Lib.hid h1; have H2 := Lib.hid h2; clear h1 h2 hl1 hl2
  go_enter Try.func18, Try.ntmps18
  go_wp2_with fail
  generalize hW : (w.alloc (.cells #[.int .i64 st, .int .i64 sq, .slice A1 n1 c1] 31)).alloc (.cells #[.int .i64 st, .int .i64 sq, .slice A2 n1 c2] 31) = W
  have hb1 : Blk W w.heap.size 31 #[.int .i64 st, .int .i64 sq, .slice A1 n1 c1] := hW ▸ (Blk.new _ _ _).alloc _
  have hb2 : Blk W (w.heap.size + 1) 31 #[.int .i64 st, .int .i64 sq, .slice A2 n1 c2] := by
    have := Blk.new (w.alloc (.cells #[.int .i64 st, .int .i64 sq, .slice A1 n1 c1] 31)) 31 #[.int .i64 st, .int .i64 sq, .slice A2 n1 c2]
    rw [hW] at this
    simpa using this
  have hbw : Below w.heap.size w W := hW ▸ ((Below.refl _ _).alloc (Nat.le_refl _) _).alloc (by simp) _
  have HB1 := Lib.hid hb1; have HB2 := Lib.hid hb2; have HBW := Lib.hid hbw
  clear hW hb1 hb2 hbw
  go_loopw [5] (fun i wr => ∃ (i' : Nat), i = .int .i64 i' ∧ i' ≤ n1 ∧ Hid (Below W.heap.size W wr)) (fun i _ => n1 - (intOf i).toNat)
  case atStart => exact ⟨0, rfl, Nat.zero_le _, Below.refl _ _⟩
  case round =>
    obtain ⟨i, rfl, hi, hbl⟩ := hrel
    have s1 : wr.cell? ⟨w.heap.size, 2, none⟩ = some (.slice A1 n1 c1) := (HB1.out.below hbl.out HB1.out.lt).cell 2
    have s2 : wr.cell? ⟨w.heap.size + 1, 2, none⟩ = some (.slice A2 n1 c2) := (HB2.out.below hbl.out HB2.out.lt).cell 2
    have hsz := HBW.out.size
    by_cases hlt : i < n1
    · obtain ⟨ba, offa, p, rfl, _, hp, hca⟩ := ((H1.out.below HBW.out hB1).below hbl.out (by omega)).at (k := i) (fun _ => rfl) (by decide) hlt
      obtain ⟨bb, offb, q, rfl, _, hq, hcb⟩ := ((H2.out.below HBW.out hB2).below hbl.out (by omega)).at (k := i) (fun _ => rfl) (by decide) hlt
      rw [hp] at hq
      injection hq with hq
      subst hq
      obtain ⟨dv, pt, inv, tm⟩ := p
      have a0 : wr.cell? ⟨ba, offa + i * 4, none⟩ = some (.int .i64 dv) := hca 0 _ rfl
      have a1 : wr.cell? ⟨ba, offa + i * 4 + 1, none⟩ = some (.int .i64 pt) := hca 1 _ rfl
      have a2 : wr.cell? ⟨ba, offa + i * 4 + 2, none⟩ = some (.bool inv) := hca 2 _ rfl
      have a3 : wr.cell? ⟨ba, offa + i * 4 + 3, none⟩ = some (.int .i64 tm) := hca 3 _ rfl
      have b0 : wr.cell? ⟨bb, offb + i * 4, none⟩ = some (.int .i64 dv) := hcb 0 _ rfl
      have b1 : wr.cell? ⟨bb, offb + i * 4 + 1, none⟩ = some (.int .i64 pt) := hcb 1 _ rfl
      have b2 : wr.cell? ⟨bb, offb + i * 4 + 2, none⟩ = some (.bool inv) := hcb 2 _ rfl
      have b3 : wr.cell? ⟨bb, offb + i * 4 + 3, none⟩ = some (.int .i64 tm) := hcb 3 _ rfl
      clear hp hca hcb
      have hlt' : (i : Int) < (n1 : Int) := by omega
      go_wp2_with fail
      go_quiet (fail)
      go_wp2_with fail
      go_roundw
      case rel => exact ⟨i + 1, by go_num, by omega, below_drewN hbl.out _⟩
      case measure => simp [intOf]; omega
    · obtain rfl : i = n1 := by omega
      go_wp2_with fail
      go_ret
      exact ⟨rfl, HBW.out.trans (hbl.out.mono hsz)⟩
end Go.Proofs.Ytjinhfomfbcnjaa
