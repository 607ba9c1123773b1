import Derived.Deep.QuietTactic
import Derived.BigQuiet
import Derived.Test.YtepicjpdhpojnaaGreatDoorS04
import Derived.Test.YtepicjpdhpojnaaGreatDoorS11
import Derived.Test.YtepicjpdhpojnaaGreatDoorS12
set_option maxRecDepth 100000
set_option maxHeartbeats 8000000
namespace Go.Proofs.YtepicjpdhpojnaaGreatDoor
theorem quiet_eq {P : Program} {f : FuncId} {args : Array Value} {w : World} {n : Nat} {v : Value}
 (h : Calls P f args (w.drewN n) fun e w' => e = .returned v ∧ w.drewN n = w') : Calls P f args (w.drewN n) fun e w'' => e = .returned v ∧ ∃ m, w'' = w.drewN m :=
 h.mono fun _ _ ⟨he, hm⟩ => ⟨he, n, hm.symm⟩
theorem quiet_eq_add {P : Program} {f : FuncId} {args : Array Value} {w : World} {a n : Nat} {v : Value}
 (h : Calls P f args (w.drewN (a + n)) fun e w' => e = .returned v ∧ w.drewN (a + n) = w') : Calls P f args (w.drewN (a + n)) fun e w'' => e = .returned v ∧ ∃ m, w'' = w.drewN (a + m) :=
 h.mono fun _ _ ⟨he, hm⟩ => ⟨he, n, hm.symm⟩
end Go.Proofs.YtepicjpdhpojnaaGreatDoor
namespace Go.Proofs.YtepicjpdhpojnaaGreatDoor
section
variable {P : Program} {ops : Array Oper} {Q : Exit → Act → World → Prop} {md : Region.Mode} {S : World → Prop} {J : List Nat}
def noJ (J : List Nat) (listed : Array Bool) : Bool := J.all fun j => !listed.getD j false
theorem noJ_mono {listed : Array Bool} {i : Nat} (h : noJ J (listed.setIfInBounds i true) = true) : noJ J listed = true := by
 unfold noJ at *
 rw [List.all_eq_true] at *
 intro j hj
 have := h j hj
 rcases hb : listed.getD j false with _ | _
 ·rfl
 ·rw [getD_set_true hb] at this; cases this
theorem noJ_set {listed : Array Bool} {i : Nat} (hi : J.contains i = false) (h : noJ J listed = true) : noJ J (listed.setIfInBounds i true) = true := by
 unfold noJ at *
 rw [List.all_eq_true] at *
 intro j hj
 have hij : i ≠ j := fun e => by subst e; simp at hi; exact hi hj
 rw [getD_set_ne false hij]
 exact h j hj
def wpAnyK (P : Program) (md : Region.Mode) (ops : Array Oper) (Q : Exit → Act → World → Prop) (S : World → Prop) (J : List Nat) : Nat → Array Bool → Act → World → Prop
 | 0, listed, a, w => Region.ready md ops listed = [] ∧ Q .normal a w
 | fuel + 1, listed, a, w =>
  (Region.ready md ops listed = [] → Q .normal a w) ∧
  ∀ i ∈ Region.ready md ops listed, wpOp P ops Q i (fun a' w' => (noJ J (listed.setIfInBounds i true) = true → S w') ∧ wpAnyK P md ops Q S J fuel (listed.setIfInBounds i true) a' w') a w
theorem wpAny_of_K : ∀ (fuel : Nat) (listed : Array Bool) (a : Act) (w : World), wpAnyK P md ops Q S J fuel listed a w → wpAny P md ops Q fuel listed a w
 | 0, _, _, _, h => h
 | fuel + 1, _, _, _, h => ⟨h.1, fun i hi => wpOp_mono (fun a' w' h' => wpAny_of_K fuel _ a' w' h'.2) (h.2 i hi)⟩
theorem wpAnyK_first {T : World → Prop} {i : Nat} {oi : Oper} {v : Value} (hi : ops[i]? = some oi) (hsel : ∀ (j : Nat) (o : Oper) cs b, ops[j]? = some o → o.op ≠ .select cs b)
 (hQ : ∀ c a w, Q (.panic c) (a.put oi.dst v) w → Q (.panic c) a w) (hJi : J.contains i = false)
 (hT : ∀ listed w, ClosedL md ops listed → listed.getD i false = false → (noJ J listed = true → S w) → T w) :
 ∀ (fuel : Nat) (listed : Array Bool) (a : Act) (w : World), ClosedL md ops listed →
  (∀ j oj, ops[j]? = some oj → j ≠ i → listed.getD j true = false → (∀ e ∈ oj.after, Region.binds md e = true → e.on ≠ i) → oi.apart ops oj = true) →
  i ∈ Region.ready md ops listed → YieldsIf P ops T oi v a → (noJ J listed = true → S w) →
  wpAnyK P md ops Q S J fuel (listed.setIfInBounds i true) (a.put oi.dst v) w → wpAnyK P md ops Q S J (fuel + 1) listed a w := by
 intro fuel
 induction fuel with
 | zero =>
  intro listed a w hc _ hr hy hS H
  have hun : listed.getD i false = false := getD_both (mem_ready.1 hr).1
  refine ⟨fun h => (by rw [h] at hr; cases hr), fun j hj => ?_⟩
  by_cases hji : j = i
  ·subst hji; exact hy.wpOp hi (hT _ _ hc hun hS) ⟨fun h => hS (noJ_mono h), H⟩
  ·have := ready_mono hj hji
   rw [H.1] at this
   cases this
 | succ fuel ih =>
  intro listed a w hc hfree hr hy hS H
  have hun : listed.getD i false = false := getD_both (mem_ready.1 hr).1
  refine ⟨fun h => (by rw [h] at hr; cases hr), fun j hj => ?_⟩
  by_cases hji : j = i
  ·subst hji; exact hy.wpOp hi (hT _ _ hc hun hS) ⟨fun h => hS (noJ_mono h), H⟩
  ·have h1 := H.2 j (ready_mono hj hji)
   obtain ⟨hjun, oj, hoj, hall⟩ := mem_ready.1 hj
   have hnot : ∀ e ∈ oj.after, Region.binds md e = true → e.on ≠ i := fun e he hb heq => by
    have h1 := hall e he hb
    rw [heq, hun] at h1
    cases h1
   have h2 := wpOp_putIf hoj (hfree j oj hoj hji hjun hnot) (fun cs b => hsel i oi cs b hi) (fun cs b => hsel j oj cs b hoj) hQ hy h1
   have hfree' : ∀ k ok, ops[k]? = some ok → k ≠ i → (listed.setIfInBounds j true).getD k true = false →
    (∀ e ∈ ok.after, Region.binds md e = true → e.on ≠ i) → oi.apart ops ok = true := fun k ok hk hki hun hno => by
    refine hfree k ok hk hki ?_ hno
    by_cases hjk : j = k
    ·subst hjk; exact hjun
    ·rw [getD_set_ne true hjk] at hun; exact hun
   have hset : ∀ h : noJ J (listed.setIfInBounds j true) = true, noJ J ((listed.setIfInBounds i true).setIfInBounds j true) = true := fun h => by
    rw [Array.setIfInBounds_comm _ _ (Ne.symm hji)]
    exact noJ_set hJi h
   refine wpOp_mono (fun a' w' h3 => ⟨fun h => h3.2.1 (hset h), ih (listed.setIfInBounds j true) a' w' (closed_set hc hj) hfree' (ready_mono hr (Ne.symm hji)) h3.1 (fun h => h3.2.1 (hset h)) ?_⟩) h2
   rw [Array.setIfInBounds_comm _ _ hji]
   exact h3.2.2
theorem wpAnyK_take {i : Nat} {oi : Oper} {d : Option Tmp} {v : Value} {fuel : Nat} {listed : Array Bool} {a : Act} {w : World} (hi : ops[i]? = some oi) (hd : oi.dst = d)
 (hs : Region.noSelect ops = true) (hf : Region.free md ops listed i = true) (hr : (Region.ready md ops listed).contains i = true) (hc : closedB md ops listed = true) (hJ : J.all (ancB md ops i ops.size) = true) (hJi : J.contains i = false)
 (hQ : ∀ c a w, Q (.panic c) (a.put oi.dst v) w → Q (.panic c) a w) (hy : YieldsIf P ops S oi v a) (hS : S w)
 (h : wpAnyK P md ops Q S J fuel (listed.setIfInBounds i true) (a.put d v) w) : wpAnyK P md ops Q S J (fuel + 1) listed a w := by
 subst hd
 refine wpAnyK_first (T := S) hi (Region.noSelect_spec hs) hQ hJi (fun l w hc hun hS => hS ?_) fuel listed a w (closed_of_B hc) (Region.free_spec hi hf) (by simpa using hr) hy (fun _ => hS) h
 unfold noJ
 rw [List.all_eq_true] at *
 intro j hj
 rcases hb : l.getD j false with _ | _
 ·rfl
 ·exact (anc_listed hc hun _ j hb (hJ j hj)).elim
theorem wpAnyK_takeT {i : Nat} {oi : Oper} {d : Option Tmp} {v : Value} {fuel : Nat} {listed : Array Bool} {a : Act} {w : World} (hi : ops[i]? = some oi) (hd : oi.dst = d)
 (hs : Region.noSelect ops = true) (hf : Region.free md ops listed i = true) (hr : (Region.ready md ops listed).contains i = true) (hc : closedB md ops listed = true) (hJi : J.contains i = false)
 (hQ : ∀ c a w, Q (.panic c) (a.put oi.dst v) w → Q (.panic c) a w) (hy : YieldsIf P ops (fun _ => True) oi v a) (hS : S w)
 (h : wpAnyK P md ops Q S J fuel (listed.setIfInBounds i true) (a.put d v) w) : wpAnyK P md ops Q S J (fuel + 1) listed a w := by
 subst hd
 exact wpAnyK_first (T := fun _ => True) hi (Region.noSelect_spec hs) hQ hJi (fun _ _ _ _ _ => trivial) fuel listed a w (closed_of_B hc) (Region.free_spec hi hf) (by simpa using hr) hy (fun _ => hS) h
theorem wpAnyK_one {k : Nat} {o : Oper} {fuel : Nat} {listed : Array Bool} {a : Act} {w : World} (b : Bool) (hr : Region.ready md ops listed = [k]) (hb : noJ J (listed.setIfInBounds k true) = b) (ho : ops[k]? = some o)
 (h : ∀ K' : Act → World → Prop, Shut (∀ a w, (b = true → S w) → ((b = true → S w) → wpAnyK P md ops Q S J fuel (listed.setIfInBounds k true) a w) → K' a w) → if Region.wanted o (yielded ops a.tmps) = true then Oper.wp P o a w K' Q else K' (a.put o.dst undef) w) :
 wpAnyK P md ops Q S J (fuel + 1) listed a w := by
 subst hb
 refine ⟨fun h0 => (by rw [hr] at h0; cases h0), fun i hi => ?_⟩
 rw [hr] at hi
 obtain rfl := List.mem_singleton.1 hi
 exact wpOp_step ho (fun K' hK => h K' (fun a w hS hW => hK a w ⟨hS, hW hS⟩))
theorem wpAnyK_done {listed : Array Bool} {a : Act} {w : World} (hr : Region.ready md ops listed = []) (h : Q .normal a w) : ∀ fuel, wpAnyK P md ops Q S J fuel listed a w
 | 0 => ⟨hr, h⟩
 | _ + 1 => ⟨fun _ => h, by rw [hr]; simp⟩
theorem wp_region_K {id : Nat} {a : Act} {w : World} (hm : P.follows .mixedOrders = true) (hS : S w.drew)
 (h : S w.drew → wpAnyK P .any ops Q S J ops.size (Array.replicate ops.size false) a w.drew) : (Code.region id ops true).wp P Q a w :=
 wp_region_any hm (wpAny_of_K _ _ _ _ (h hS))
end
end Go.Proofs.YtepicjpdhpojnaaGreatDoor
namespace Go.Proofs.YtepicjpdhpojnaaGreatDoor
section
variable {P : Program} {ops : Array Oper} {Q : Exit → Act → World → Prop} {md : Region.Mode} {S : World → Prop} {J : List Nat}
theorem wpAnyK_takeL {i : Nat} {oi : Oper} {d : Option Tmp} {v : Value} {fuel : Nat} {listed : Array Bool} (L : Array Bool) {a : Act} {w : World} (hl : listed.setIfInBounds i true = L) (hi : ops[i]? = some oi) (hd : oi.dst = d)
 (hs : Region.noSelect ops = true) (hf : Region.free md ops listed i = true) (hr : (Region.ready md ops listed).contains i = true) (hc : closedB md ops listed = true) (hJ : J.all (ancB md ops i ops.size) = true) (hJi : J.contains i = false)
 (hQ : ∀ c a w, Q (.panic c) (a.put oi.dst v) w → Q (.panic c) a w) (hy : YieldsIf P ops S oi v a) (hS : S w)
 (h : wpAnyK P md ops Q S J fuel L (a.put d v) w) : wpAnyK P md ops Q S J (fuel + 1) listed a w := by
 subst hl
 exact wpAnyK_take hi hd hs hf hr hc hJ hJi hQ hy hS h
theorem wpAnyK_takeTL {i : Nat} {oi : Oper} {d : Option Tmp} {v : Value} {fuel : Nat} {listed : Array Bool} (L : Array Bool) {a : Act} {w : World} (hl : listed.setIfInBounds i true = L) (hi : ops[i]? = some oi) (hd : oi.dst = d)
 (hs : Region.noSelect ops = true) (hf : Region.free md ops listed i = true) (hr : (Region.ready md ops listed).contains i = true) (hc : closedB md ops listed = true) (hJi : J.contains i = false)
 (hQ : ∀ c a w, Q (.panic c) (a.put oi.dst v) w → Q (.panic c) a w) (hy : YieldsIf P ops (fun _ => True) oi v a) (hS : S w)
 (h : wpAnyK P md ops Q S J fuel L (a.put d v) w) : wpAnyK P md ops Q S J (fuel + 1) listed a w := by
 subst hl
 exact wpAnyK_takeT hi hd hs hf hr hc hJi hQ hy hS h
theorem wpAnyK_oneL {k : Nat} {o : Oper} {fuel : Nat} {listed : Array Bool} (L : Array Bool) {a : Act} {w : World} (b : Bool) (hl : listed.setIfInBounds k true = L) (hr : Region.ready md ops listed = [k]) (hb : noJ J L = b) (ho : ops[k]? = some o)
 (h : ∀ K' : Act → World → Prop, Shut (∀ a w, (b = true → S w) → ((b = true → S w) → wpAnyK P md ops Q S J fuel L a w) → K' a w) → if Region.wanted o (yielded ops a.tmps) = true then Oper.wp P o a w K' Q else K' (a.put o.dst undef) w) :
 wpAnyK P md ops Q S J (fuel + 1) listed a w := by
 subst hl
 exact wpAnyK_one b hr hb ho h
end
end Go.Proofs.YtepicjpdhpojnaaGreatDoor
namespace Go.Proofs.YtepicjpdhpojnaaGreatDoor
open Go.RowKit
def ScPost (w : World) (B sb : Nat) (An : Option Addr) (nn cn : Nat) (Ad : Option Addr) (nd cd : Nat) (k d p q : Int) (lk sk : Bool) (E : Int) (G : Fd) (e : Ending) (w' : World) : Prop :=
 e = .returned (.int .i64 E) ∧ ∃ F', ScTo w B sb An nn cn Ad nd cd k d p q lk sk F' w' ∧ (E = 0 → F' = G)
theorem ladd_uni (An Ad Al : Option Addr) (nn cn nd cd c Bn Bd Bl : Nat) (ns : List Nd) (ds : List Dv) (ls : List Lk) (d p q : Int) (w : World) (hla : Laid w) (hn : Sl w Bn 3 An nn cn (ns.flatMap Nd.cells)) (hd : Sl w Bd 5 Ad nd cd (ds.flatMap Dv.cells)) (hs : Sl w Bl 3 Al ls.length c (ls.flatMap Lk.cells)) (hBn : Bn ≤ w.heap.size) (hBd : Bd ≤ w.heap.size) (hBl : Bl ≤ w.heap.size)
 (hsn : ∀ x ∈ ns, x.name.size ≤ 9223372036854775807) (hsd : ∀ x ∈ ds, x.name.size ≤ 9223372036854775807) :
 Calls Tryz.prog 107 #[.agg #[.slice An nn cn, .slice Ad nd cd], .slice Al ls.length c, .agg #[.int .i64 d, .int .i64 p, .int .i64 q]] w fun e w' => ∃ (A' : Option Addr) (n' c' : Nat) (l' : List Lk), e = .returned (.tuple #[.slice A' n' c', .int .i64 (addErr ns ds ls ⟨d, p, q⟩)]) ∧ Hid (Sl w' w'.heap.size 3 A' n' c' (l'.flatMap Lk.cells)) ∧ Hid (∀ b off, A' = some ⟨b, off, none⟩ → w.heap.size ≤ b) ∧ Hid (n' ≤ ls.length + 1) ∧ Hid (addErr ns ds ls ⟨d, p, q⟩ = 0 → l' = insL ⟨d, p, q⟩ ls) ∧ Hid (Below w.heap.size w w') := by
 refine (ladd_any An Ad Al nn cn nd cd c Bn Bd Bl ns ds ls d p q w hla hn hd hs hBn hBd hBl hsn hsd).mono ?_
 rintro e w' ⟨⟨h1, rfl⟩ | ⟨h1, A', c', rfl, hO⟩, hb⟩
 ·exact ⟨none, 0, 0, [], rfl, Sl.nil _ _ _, (fun _ _ e => by cases e), Nat.zero_le _, fun h => absurd h h1, hb⟩
 ·exact ⟨A', _, c', _, by rw [h1], hO.out.sl, fun b off e => (World.ownsRow.lt hO.out b (by rw [e]; rfl)).1, Nat.le_refl _, fun _ => rfl, hb⟩
theorem lremove_uni (An Ad Al : Option Addr) (nn cn nd cd c Bn Bd Bl : Nat) (ns : List Nd) (ds : List Dv) (ls : List Lk) (d q : Int) (w : World) (h0 : locksErr ns ds ls = 0) (hla : Laid w) (hn : Sl w Bn 3 An nn cn (ns.flatMap Nd.cells)) (hd : Sl w Bd 5 Ad nd cd (ds.flatMap Dv.cells)) (hs : Sl w Bl 3 Al ls.length c (ls.flatMap Lk.cells)) (hBn : Bn ≤ w.heap.size) (hBd : Bd ≤ w.heap.size) (hBl : Bl ≤ w.heap.size)
 (hsn : ∀ x ∈ ns, x.name.size ≤ 9223372036854775807) (hsd : ∀ x ∈ ds, x.name.size ≤ 9223372036854775807) :
 Calls Tryz.prog 79 #[.agg #[.slice An nn cn, .slice Ad nd cd], .slice Al ls.length c, .int .i64 d, .int .i64 q] w fun e w' => ∃ (A' : Option Addr) (n' c' : Nat) (l' : List Lk), e = .returned (.tuple #[.slice A' n' c', .int .i64 (if idxL d q ls = none then 15 else 0)]) ∧ Hid (Sl w' w'.heap.size 3 A' n' c' (l'.flatMap Lk.cells)) ∧ Hid (∀ b off, A' = some ⟨b, off, none⟩ → w.heap.size ≤ b) ∧ Hid (n' ≤ ls.length + 1) ∧ Hid (idxL d q ls ≠ none → l' = (match idxL d q ls with | some i => ls.eraseIdx i | none => ls)) ∧ Hid (Below w.heap.size w w') := by
 refine (lremove_any An Ad Al nn cn nd cd c Bn Bd Bl ns ds ls d q w hla hn hd hs hBn hBd hBl hsn hsd).mono ?_
 rintro e w' ⟨⟨h1, _⟩ | ⟨_, h1, rfl⟩ | ⟨_, i, A', c', h1, rfl, hO⟩, hb⟩
 ·exact absurd h0 h1
 ·exact ⟨none, 0, 0, [], by rw [if_pos h1], Sl.nil _ _ _, (fun _ _ e => by cases e), Nat.zero_le _, fun h => absurd h1 h, hb⟩
 ·exact ⟨A', _, c', _, by rw [if_neg (by rw [h1]; simp)], hO.out.sl, fun b off e => (World.ownsRow.lt hO.out b (by rw [e]; rfl)).1, (show ls.length - 1 ≤ ls.length + 1 by omega), fun _ => by rw [h1], hb⟩
theorem sc_cells {w : World} {sb nn cn nd cd n c nl cl nt ct : Nat} {An Ad As Al At : Option Addr} {k d p q : Int} {lk sk : Bool} (h : Blk w sb 90 (scV An nn cn Ad nd cd As n c Al nl cl At nt ct k d p q lk sk)) :
 w.cell? ⟨sb, 0, none⟩ = some (.slice An nn cn) ∧ w.cell? ⟨sb, 1, none⟩ = some (.slice Ad nd cd) ∧ w.cell? ⟨sb, 3, none⟩ = some (.slice Al nl cl) ∧ w.cell? ⟨sb, 6, none⟩ = some (.int .i64 d) ∧ w.cell? ⟨sb, 7, none⟩ = some (.int .i64 p) ∧ w.cell? ⟨sb, 8, none⟩ = some (.int .i64 q) := by
 unfold scV at h
 exact ⟨h.cell 0, h.cell 1, h.cell 3, h.cell 6, h.cell 7, h.cell 8⟩
theorem ScAt.locks {w w1 : World} {B sb nn cn nd cd n c nl cl nt ct n' c' : Nat} {An Ad As Al At A' : Option Addr} {ns : List Nd} {ds : List Dv} {F : Fd} {k d p q : Int} {lk sk : Bool} {l' : List Lk} (h : ScAt w B sb An nn cn ns Ad nd cd ds As n c Al nl cl At nt ct F k d p q lk sk) (hb : Below w.heap.size w w1) (hs : Sl w1 w1.heap.size 3 A' n' c' (l'.flatMap Lk.cells)) (hA : ∀ b off, A' = some ⟨b, off, none⟩ → sb < b) (hn' : n' ≤ nl + 1) :
 ScTo w B sb An nn cn Ad nd cd k d p q lk sk ⟨F.s, l', F.st⟩ (w1.setCell ⟨sb, 3, none⟩ (.slice A' n' c')) := by
 have hl := h.b.lt
 have h1 := h.later hb
 refine ⟨grown_trans (grown_of_below hb _) (grown_cell _ _ _), As, n, c, A', n', c', At, nt, ct, ?_, ?_, ?_, ?_, by have := h.bn; exact ⟨by omega, by omega, by omega⟩⟩
 ·have := h1.b.set 3 (.slice A' n' c')
  unfold scV at this ⊢
  exact this
 ·exact .of_sl (h1.hs.setCell (p := ⟨sb, 3, none⟩) h.bB _) (by have := h.bB; have := hb.size; simp; omega)
 ·refine .of_new ?_ (fun b off e => Nat.le_of_lt (hA b off e))
  obtain ⟨g1, g2, g3, g4, g5⟩ := hs
  refine ⟨g1, g2, g3, g4, fun hn => ?_⟩
  obtain ⟨b, off, e, hbb, hc⟩ := g5 hn
  refine ⟨b, off, e, by simpa [World.setCell] using hbb, fun j u hu => ?_⟩
  exact (World.cell?_of_block (Below.heap_setCell w1 ⟨sb, 3, none⟩ _ b (by have := hA b off e; simp; omega))).trans (hc j u hu)
 ·exact .of_sl (h1.ht.setCell (p := ⟨sb, 3, none⟩) h.bB _) (by have := h.bB; have := hb.size; simp; omega)
theorem lock_any (B sb : Nat) (An Ad As Al At : Option Addr) (nn cn nd cd n c nl cl nt ct : Nat) (ns : List Nd) (ds : List Dv) (F : Fd) (k p q : Int) (d : Nat) (lk sk : Bool) (w : World) (h : ScAt w B sb An nn cn ns Ad nd cd ds As n c Al nl cl At nt ct F k d p q lk sk) (hdn : d < n) :
 Calls Tryz.prog 78 #[.pointer (some ⟨sb, 0, none⟩)] w (ScPost w B sb An nn cn Ad nd cd k d p q lk sk (if posB p = true ∧ F.s.getD d 0 = p then addErr ns ds F.ls ⟨d, p, q⟩ else 10) ⟨F.s, insL ⟨d, p, q⟩ F.ls, F.st⟩) := by
 have hnl : F.ls.length = nl := h.hl.len (fun _ => rfl) (by decide)
 subst hnl
 obtain ⟨E, hE⟩ : ∃ E, E = (if posB p = true ∧ F.s.getD d 0 = p then addErr ns ds F.ls ⟨d, p, q⟩ else 10) := ⟨_, rfl⟩
 rw [← hE]
 obtain ⟨bs, os, sv, hAs, hbs, hsv, hcs⟩ := h.hs.at1 hdn
 subst hAs
 have hsm := h.hs.le
 have HP : Hid (∀ W : World, Calls Tryz.prog 104 #[.int .i64 p] W fun e w' => e = .returned (.bool (posB p)) ∧ W = w') := fun W => fpos_any p W
 rw [getDf hsv] at hE
 have HH := Lib.hid h
 have hb := h.b
 unfold scV at hb
 have a2 : w.cell? ⟨sb, 2, none⟩ = some (.slice (some ⟨bs, os, none⟩) n c) := hb.cell 2
 have a6 : w.cell? ⟨sb, 6, none⟩ = some (.int .i64 (d : Int)) := hb.cell 6
 have a7 : w.cell? ⟨sb, 7, none⟩ = some (.int .i64 p) := hb.cell 7
 clear hb h hsv
 rcases hp : posB p with _ | _
 ·rw [hp] at HP
  rw [if_neg (by simp [hp])] at hE
  subst hE
  clear hp
  go_enter Tryz.func78, Tryz.ntmps78
  go_wp2_with fail
  go_quiet ((go_at_call 104; exact quiet_eq (HP.out _)))
  go_wp2_with fail
  go_ret
  exact ⟨rfl, F, HH.out.same.drewN _, fun e => by cases e⟩
 rw [hp] at HP
 by_cases hv : sv = p; rotate_left
 ·have qv : (sv != p) = true := by simpa using hv
  rw [if_neg (by simp [hv])] at hE
  subst hE
  clear hp hv
  go_enter Tryz.func78, Tryz.ntmps78
  go_wp2_with fail
  go_quiet ((go_at_call 104; exact quiet_eq (HP.out _)))
  go_wp2_with fail
  go_ret
  exact ⟨rfl, F, HH.out.same.drewN _, fun e => by cases e⟩
 have qv : (sv != p) = false := by simpa using hv
 rw [if_pos ⟨hp, hv⟩] at hE
 have HE := Lib.hid hE
 clear hp hv hE
 go_enter Tryz.func78, Tryz.ntmps78
 go_wp2_with fail
 go_quiet ((go_at_call 104; exact quiet_eq (HP.out _)))
 go_wp2_with fail
 clear a2 a6 a7
 have HQ := Lib.hid (HH.out.later (below_drewN (Below.refl _ _) nq))
 have HG0 : Hid (Below w.heap.size w (w.drewN nq)) := below_drewN (Below.refl _ _) nq
 generalize World.drewN w nq = wq at *
 have HQD := Lib.hid (HQ.out.later (Below.refl _ _).drew)
 refine wp_region_K (S := fun W' => W'.cell? ⟨sb, 0, none⟩ = some (.slice An nn cn) ∧ W'.cell? ⟨sb, 1, none⟩ = some (.slice Ad nd cd) ∧ W'.cell? ⟨sb, 3, none⟩ = some (.slice Al F.ls.length cl) ∧ W'.cell? ⟨sb, 6, none⟩ = some (.int .i64 (d : Int)) ∧ W'.cell? ⟨sb, 7, none⟩ = some (.int .i64 p) ∧ W'.cell? ⟨sb, 8, none⟩ = some (.int .i64 q)) (J := [33]) (by kernel_rfl) ?_ (fun hHeld => ?_)
 ·exact sc_cells HQ.out.b
 try dsimp only at hHeld
 refine wpAnyK_takeTL (i := 0) (d := some 31) (v := ?_) #[true, false, false, false, false, false, false, false, false, false, false, false, false, false, false, false, false, false, false, false, false, false, false, false, false, false, false, false, false, false, false, false, false, false, false] (by kernel_rfl) rfl rfl (by kernel_rfl) (by kernel_rfl) (by kernel_rfl) (by kernel_rfl) (by kernel_rfl) (fun _ _ _ h => h) (Or.inl ⟨by rfl, ?_⟩) hHeld ?_
 rotate_left
 ·(intro w hSw; (try dsimp only at hSw);  go_simp; try with_reducible rfl)
 try simp only [Act.put, sA, s0, s1]
 refine wpAnyK_takeTL (i := 1) (d := some 32) (v := ?_) #[true, true, false, false, false, false, false, false, false, false, false, false, false, false, false, false, false, false, false, false, false, false, false, false, false, false, false, false, false, false, false, false, false, false, false] (by kernel_rfl) rfl rfl (by kernel_rfl) (by kernel_rfl) (by kernel_rfl) (by kernel_rfl) (by kernel_rfl) (fun _ _ _ h => h) (Or.inl ⟨by rfl, ?_⟩) hHeld ?_
 rotate_left
 ·(intro w hSw; (try dsimp only at hSw);  go_simp; try with_reducible rfl)
 try simp only [Act.put, sA, s0, s1]
 refine wpAnyK_takeTL (i := 2) (d := some 33) (v := ?_) #[true, true, true, false, false, false, false, false, false, false, false, false, false, false, false, false, false, false, false, false, false, false, false, false, false, false, false, false, false, false, false, false, false, false, false] (by kernel_rfl) rfl rfl (by kernel_rfl) (by kernel_rfl) (by kernel_rfl) (by kernel_rfl) (by kernel_rfl) (fun _ _ _ h => h) (Or.inl ⟨by rfl, ?_⟩) hHeld ?_
 rotate_left
 ·(intro w hSw; (try dsimp only at hSw);  go_simp; try with_reducible rfl)
 try simp only [Act.put, sA, s0, s1]
 refine wpAnyK_takeTL (i := 3) (d := some 34) (v := ?_) #[true, true, true, true, false, false, false, false, false, false, false, false, false, false, false, false, false, false, false, false, false, false, false, false, false, false, false, false, false, false, false, false, false, false, false] (by kernel_rfl) rfl rfl (by kernel_rfl) (by kernel_rfl) (by kernel_rfl) (by kernel_rfl) (by kernel_rfl) (fun _ _ _ h => h) (Or.inl ⟨by rfl, ?_⟩) hHeld ?_
 rotate_left
 ·(intro w hSw; (try dsimp only at hSw);  go_simp; try with_reducible rfl)
 try simp only [Act.put, sA, s0, s1]
 refine wpAnyK_takeL (i := 4) (d := some 35) (v := ?_) #[true, true, true, true, true, false, false, false, false, false, false, false, false, false, false, false, false, false, false, false, false, false, false, false, false, false, false, false, false, false, false, false, false, false, false] (by kernel_rfl) rfl rfl (by kernel_rfl) (by kernel_rfl) (by kernel_rfl) (by kernel_rfl) (by kernel_rfl) (by kernel_rfl) (fun _ _ _ h => h) (Or.inl ⟨by rfl, ?_⟩) hHeld ?_
 rotate_left
 ·(intro w hSw; (try dsimp only at hSw);  go_simp; try with_reducible rfl)
 try simp only [Act.put, sA, s0, s1]
 refine wpAnyK_takeTL (i := 5) (d := some 36) (v := ?_) #[true, true, true, true, true, true, false, false, false, false, false, false, false, false, false, false, false, false, false, false, false, false, false, false, false, false, false, false, false, false, false, false, false, false, false] (by kernel_rfl) rfl rfl (by kernel_rfl) (by kernel_rfl) (by kernel_rfl) (by kernel_rfl) (by kernel_rfl) (fun _ _ _ h => h) (Or.inl ⟨by rfl, ?_⟩) hHeld ?_
 rotate_left
 ·(intro w hSw; (try dsimp only at hSw);  go_simp; try with_reducible rfl)
 try simp only [Act.put, sA, s0, s1]
 refine wpAnyK_takeTL (i := 6) (d := some 37) (v := ?_) #[true, true, true, true, true, true, true, false, false, false, false, false, false, false, false, false, false, false, false, false, false, false, false, false, false, false, false, false, false, false, false, false, false, false, false] (by kernel_rfl) rfl rfl (by kernel_rfl) (by kernel_rfl) (by kernel_rfl) (by kernel_rfl) (by kernel_rfl) (fun _ _ _ h => h) (Or.inl ⟨by rfl, ?_⟩) hHeld ?_
 rotate_left
 ·(intro w hSw; (try dsimp only at hSw);  go_simp; try with_reducible rfl)
 try simp only [Act.put, sA, s0, s1]
 refine wpAnyK_takeTL (i := 7) (d := some 38) (v := ?_) #[true, true, true, true, true, true, true, true, false, false, false, false, false, false, false, false, false, false, false, false, false, false, false, false, false, false, false, false, false, false, false, false, false, false, false] (by kernel_rfl) rfl rfl (by kernel_rfl) (by kernel_rfl) (by kernel_rfl) (by kernel_rfl) (by kernel_rfl) (fun _ _ _ h => h) (Or.inl ⟨by rfl, ?_⟩) hHeld ?_
 rotate_left
 ·(intro w hSw; (try dsimp only at hSw);  go_simp; try with_reducible rfl)
 try simp only [Act.put, sA, s0, s1]
 refine wpAnyK_takeTL (i := 8) (d := some 39) (v := ?_) #[true, true, true, true, true, true, true, true, true, false, false, false, false, false, false, false, false, false, false, false, false, false, false, false, false, false, false, false, false, false, false, false, false, false, false] (by kernel_rfl) rfl rfl (by kernel_rfl) (by kernel_rfl) (by kernel_rfl) (by kernel_rfl) (by kernel_rfl) (fun _ _ _ h => h) (Or.inl ⟨by rfl, ?_⟩) hHeld ?_
 rotate_left
 ·(intro w hSw; (try dsimp only at hSw);  go_simp; try with_reducible rfl)
 try simp only [Act.put, sA, s0, s1]
 refine wpAnyK_takeL (i := 9) (d := some 40) (v := ?_) #[true, true, true, true, true, true, true, true, true, true, false, false, false, false, false, false, false, false, false, false, false, false, false, false, false, false, false, false, false, false, false, false, false, false, false] (by kernel_rfl) rfl rfl (by kernel_rfl) (by kernel_rfl) (by kernel_rfl) (by kernel_rfl) (by kernel_rfl) (by kernel_rfl) (fun _ _ _ h => h) (Or.inl ⟨by rfl, ?_⟩) hHeld ?_
 rotate_left
 ·(intro w hSw; (try dsimp only at hSw);  go_simp; try with_reducible rfl)
 try simp only [Act.put, sA, s0, s1]
 refine wpAnyK_takeTL (i := 10) (d := some 41) (v := ?_) #[true, true, true, true, true, true, true, true, true, true, true, false, false, false, false, false, false, false, false, false, false, false, false, false, false, false, false, false, false, false, false, false, false, false, false] (by kernel_rfl) rfl rfl (by kernel_rfl) (by kernel_rfl) (by kernel_rfl) (by kernel_rfl) (by kernel_rfl) (fun _ _ _ h => h) (Or.inl ⟨by rfl, ?_⟩) hHeld ?_
 rotate_left
 ·(intro w hSw; (try dsimp only at hSw);  go_simp; try with_reducible rfl)
 try simp only [Act.put, sA, s0, s1]
 refine wpAnyK_takeTL (i := 11) (d := some 42) (v := ?_) #[true, true, true, true, true, true, true, true, true, true, true, true, false, false, false, false, false, false, false, false, false, false, false, false, false, false, false, false, false, false, false, false, false, false, false] (by kernel_rfl) rfl rfl (by kernel_rfl) (by kernel_rfl) (by kernel_rfl) (by kernel_rfl) (by kernel_rfl) (fun _ _ _ h => h) (Or.inl ⟨by rfl, ?_⟩) hHeld ?_
 rotate_left
 ·(intro w hSw; (try dsimp only at hSw);  go_simp; try with_reducible rfl)
 try simp only [Act.put, sA, s0, s1]
 refine wpAnyK_takeTL (i := 12) (d := some 43) (v := ?_) #[true, true, true, true, true, true, true, true, true, true, true, true, true, false, false, false, false, false, false, false, false, false, false, false, false, false, false, false, false, false, false, false, false, false, false] (by kernel_rfl) rfl rfl (by kernel_rfl) (by kernel_rfl) (by kernel_rfl) (by kernel_rfl) (by kernel_rfl) (fun _ _ _ h => h) (Or.inl ⟨by rfl, ?_⟩) hHeld ?_
 rotate_left
 ·(intro w hSw; (try dsimp only at hSw);  go_simp; try with_reducible rfl)
 try simp only [Act.put, sA, s0, s1]
 refine wpAnyK_takeTL (i := 13) (d := some 44) (v := ?_) #[true, true, true, true, true, true, true, true, true, true, true, true, true, true, false, false, false, false, false, false, false, false, false, false, false, false, false, false, false, false, false, false, false, false, false] (by kernel_rfl) rfl rfl (by kernel_rfl) (by kernel_rfl) (by kernel_rfl) (by kernel_rfl) (by kernel_rfl) (fun _ _ _ h => h) (Or.inl ⟨by rfl, ?_⟩) hHeld ?_
 rotate_left
 ·(intro w hSw; (try dsimp only at hSw);  go_simp; try with_reducible rfl)
 try simp only [Act.put, sA, s0, s1]
 refine wpAnyK_takeL (i := 14) (d := some 45) (v := ?_) #[true, true, true, true, true, true, true, true, true, true, true, true, true, true, true, false, false, false, false, false, false, false, false, false, false, false, false, false, false, false, false, false, false, false, false] (by kernel_rfl) rfl rfl (by kernel_rfl) (by kernel_rfl) (by kernel_rfl) (by kernel_rfl) (by kernel_rfl) (by kernel_rfl) (fun _ _ _ h => h) (Or.inl ⟨by rfl, ?_⟩) hHeld ?_
 rotate_left
 ·(intro w hSw; (try dsimp only at hSw);  go_simp; try with_reducible rfl)
 try simp only [Act.put, sA, s0, s1]
 refine wpAnyK_takeTL (i := 15) (d := some 46) (v := ?_) #[true, true, true, true, true, true, true, true, true, true, true, true, true, true, true, true, false, false, false, false, false, false, false, false, false, false, false, false, false, false, false, false, false, false, false] (by kernel_rfl) rfl rfl (by kernel_rfl) (by kernel_rfl) (by kernel_rfl) (by kernel_rfl) (by kernel_rfl) (fun _ _ _ h => h) (Or.inl ⟨by rfl, ?_⟩) hHeld ?_
 rotate_left
 ·(intro w hSw; (try dsimp only at hSw);  go_simp; try with_reducible rfl)
 try simp only [Act.put, sA, s0, s1]
 refine wpAnyK_takeTL (i := 16) (d := some 47) (v := ?_) #[true, true, true, true, true, true, true, true, true, true, true, true, true, true, true, true, true, false, false, false, false, false, false, false, false, false, false, false, false, false, false, false, false, false, false] (by kernel_rfl) rfl rfl (by kernel_rfl) (by kernel_rfl) (by kernel_rfl) (by kernel_rfl) (by kernel_rfl) (fun _ _ _ h => h) (Or.inl ⟨by rfl, ?_⟩) hHeld ?_
 rotate_left
 ·(intro w hSw; (try dsimp only at hSw);  go_simp; try with_reducible rfl)
 try simp only [Act.put, sA, s0, s1]
 refine wpAnyK_takeTL (i := 17) (d := some 48) (v := ?_) #[true, true, true, true, true, true, true, true, true, true, true, true, true, true, true, true, true, true, false, false, false, false, false, false, false, false, false, false, false, false, false, false, false, false, false] (by kernel_rfl) rfl rfl (by kernel_rfl) (by kernel_rfl) (by kernel_rfl) (by kernel_rfl) (by kernel_rfl) (fun _ _ _ h => h) (Or.inl ⟨by rfl, ?_⟩) hHeld ?_
 rotate_left
 ·(intro w hSw; (try dsimp only at hSw);  go_simp; try with_reducible rfl)
 try simp only [Act.put, sA, s0, s1]
 refine wpAnyK_takeTL (i := 18) (d := some 49) (v := ?_) #[true, true, true, true, true, true, true, true, true, true, true, true, true, true, true, true, true, true, true, false, false, false, false, false, false, false, false, false, false, false, false, false, false, false, false] (by kernel_rfl) rfl rfl (by kernel_rfl) (by kernel_rfl) (by kernel_rfl) (by kernel_rfl) (by kernel_rfl) (fun _ _ _ h => h) (Or.inl ⟨by rfl, ?_⟩) hHeld ?_
 rotate_left
 ·(intro w hSw; (try dsimp only at hSw);  go_simp; try with_reducible rfl)
 try simp only [Act.put, sA, s0, s1]
 refine wpAnyK_takeL (i := 19) (d := some 50) (v := ?_) #[true, true, true, true, true, true, true, true, true, true, true, true, true, true, true, true, true, true, true, true, false, false, false, false, false, false, false, false, false, false, false, false, false, false, false] (by kernel_rfl) rfl rfl (by kernel_rfl) (by kernel_rfl) (by kernel_rfl) (by kernel_rfl) (by kernel_rfl) (by kernel_rfl) (fun _ _ _ h => h) (Or.inl ⟨by rfl, ?_⟩) hHeld ?_
 rotate_left
 ·(intro w hSw; (try dsimp only at hSw);  go_simp; try with_reducible rfl)
 try simp only [Act.put, sA, s0, s1]
 refine wpAnyK_takeTL (i := 20) (d := some 51) (v := ?_) #[true, true, true, true, true, true, true, true, true, true, true, true, true, true, true, true, true, true, true, true, true, false, false, false, false, false, false, false, false, false, false, false, false, false, false] (by kernel_rfl) rfl rfl (by kernel_rfl) (by kernel_rfl) (by kernel_rfl) (by kernel_rfl) (by kernel_rfl) (fun _ _ _ h => h) (Or.inl ⟨by rfl, ?_⟩) hHeld ?_
 rotate_left
 ·(intro w hSw; (try dsimp only at hSw);  go_simp; try with_reducible rfl)
 try simp only [Act.put, sA, s0, s1]
 refine wpAnyK_takeTL (i := 21) (d := some 52) (v := ?_) #[true, true, true, true, true, true, true, true, true, true, true, true, true, true, true, true, true, true, true, true, true, true, false, false, false, false, false, false, false, false, false, false, false, false, false] (by kernel_rfl) rfl rfl (by kernel_rfl) (by kernel_rfl) (by kernel_rfl) (by kernel_rfl) (by kernel_rfl) (fun _ _ _ h => h) (Or.inl ⟨by rfl, ?_⟩) hHeld ?_
 rotate_left
 ·(intro w hSw; (try dsimp only at hSw);  go_simp; try with_reducible rfl)
 try simp only [Act.put, sA, s0, s1]
 refine wpAnyK_takeTL (i := 22) (d := some 53) (v := ?_) #[true, true, true, true, true, true, true, true, true, true, true, true, true, true, true, true, true, true, true, true, true, true, true, false, false, false, false, false, false, false, false, false, false, false, false] (by kernel_rfl) rfl rfl (by kernel_rfl) (by kernel_rfl) (by kernel_rfl) (by kernel_rfl) (by kernel_rfl) (fun _ _ _ h => h) (Or.inl ⟨by rfl, ?_⟩) hHeld ?_
 rotate_left
 ·(intro w hSw; (try dsimp only at hSw);  go_simp; try with_reducible rfl)
 try simp only [Act.put, sA, s0, s1]
 refine wpAnyK_takeTL (i := 23) (d := some 54) (v := ?_) #[true, true, true, true, true, true, true, true, true, true, true, true, true, true, true, true, true, true, true, true, true, true, true, true, false, false, false, false, false, false, false, false, false, false, false] (by kernel_rfl) rfl rfl (by kernel_rfl) (by kernel_rfl) (by kernel_rfl) (by kernel_rfl) (by kernel_rfl) (fun _ _ _ h => h) (Or.inl ⟨by rfl, ?_⟩) hHeld ?_
 rotate_left
 ·(intro w hSw; (try dsimp only at hSw);  go_simp; try with_reducible rfl)
 try simp only [Act.put, sA, s0, s1]
 refine wpAnyK_takeL (i := 24) (d := some 55) (v := ?_) #[true, true, true, true, true, true, true, true, true, true, true, true, true, true, true, true, true, true, true, true, true, true, true, true, true, false, false, false, false, false, false, false, false, false, false] (by kernel_rfl) rfl rfl (by kernel_rfl) (by kernel_rfl) (by kernel_rfl) (by kernel_rfl) (by kernel_rfl) (by kernel_rfl) (fun _ _ _ h => h) (Or.inl ⟨by rfl, ?_⟩) hHeld ?_
 rotate_left
 ·(intro w hSw; (try dsimp only at hSw);  go_simp; try with_reducible rfl)
 try simp only [Act.put, sA, s0, s1]
 refine wpAnyK_takeTL (i := 25) (d := some 56) (v := ?_) #[true, true, true, true, true, true, true, true, true, true, true, true, true, true, true, true, true, true, true, true, true, true, true, true, true, true, false, false, false, false, false, false, false, false, false] (by kernel_rfl) rfl rfl (by kernel_rfl) (by kernel_rfl) (by kernel_rfl) (by kernel_rfl) (by kernel_rfl) (fun _ _ _ h => h) (Or.inl ⟨by rfl, ?_⟩) hHeld ?_
 rotate_left
 ·(intro w hSw; (try dsimp only at hSw);  go_simp; try with_reducible rfl)
 try simp only [Act.put, sA, s0, s1]
 refine wpAnyK_oneL (k := 26) #[true, true, true, true, true, true, true, true, true, true, true, true, true, true, true, true, true, true, true, true, true, true, true, true, true, true, true, false, false, false, false, false, false, false, false] true (by kernel_rfl) (by kernel_rfl) (by kernel_rfl) rfl (fun K hK => ?_)
 (go_simp; refine (ladd_uni An Ad Al nn cn nd cd cl _ _ _ ns ds F.ls d p q wq.drew HQD.out.la HQD.out.hn HQD.out.hd HQD.out.hl HQD.out.le HQD.out.le HQD.out.le HQD.out.sn HQD.out.sd).mono ?_; rintro e wx ⟨A', n', c', l', rfl, hS', hA', hn', hl', hb'⟩; rw [← HE.out]; go_simp)
 refine hK.out _ _ (fun _ => ?_) (fun hHeld' => ?_)
 ·exact sc_cells (HQD.out.later hb'.out).b
 replace hHeld := hHeld' rfl
 clear hHeld' hK K
 try dsimp only at hHeld
 have HSX := Lib.hid hS'.out; have HAX := Lib.hid hA'.out; have HLX := Lib.hid hl'.out; have HNX := Lib.hid hn'.out; have HBX : Hid (Below w.heap.size w wx) := HG0.out.drew.trans (hb'.out.mono HG0.out.drew.size)
 have z3 := (HQD.out.later hb'.out).b.frozen 3
 clear hS' hA' hn' hl' hb'
 refine wpAnyK_takeTL (i := 27) (d := some 30) (v := ?_) #[true, true, true, true, true, true, true, true, true, true, true, true, true, true, true, true, true, true, true, true, true, true, true, true, true, true, true, true, false, false, false, false, false, false, false] (by kernel_rfl) rfl rfl (by kernel_rfl) (by kernel_rfl) (by kernel_rfl) (by kernel_rfl) (by kernel_rfl) (fun _ _ _ h => h) (Or.inl ⟨by rfl, ?_⟩) hHeld ?_
 rotate_left
 ·(intro w hSw; (try dsimp only at hSw);  go_simp; try with_reducible rfl)
 try simp only [Act.put, sA, s0, s1]
 refine wpAnyK_takeTL (i := 28) (d := some 58) (v := ?_) #[true, true, true, true, true, true, true, true, true, true, true, true, true, true, true, true, true, true, true, true, true, true, true, true, true, true, true, true, true, false, false, false, false, false, false] (by kernel_rfl) rfl rfl (by kernel_rfl) (by kernel_rfl) (by kernel_rfl) (by kernel_rfl) (by kernel_rfl) (fun _ _ _ h => h) (Or.inl ⟨by rfl, ?_⟩) hHeld ?_
 rotate_left
 ·(intro w hSw; (try dsimp only at hSw);  go_simp; try with_reducible rfl)
 try simp only [Act.put, sA, s0, s1]
 refine wpAnyK_takeTL (i := 29) (d := some 59) (v := ?_) #[true, true, true, true, true, true, true, true, true, true, true, true, true, true, true, true, true, true, true, true, true, true, true, true, true, true, true, true, true, true, false, false, false, false, false] (by kernel_rfl) rfl rfl (by kernel_rfl) (by kernel_rfl) (by kernel_rfl) (by kernel_rfl) (by kernel_rfl) (fun _ _ _ h => h) (Or.inl ⟨by rfl, ?_⟩) hHeld ?_
 rotate_left
 ·(intro w hSw; (try dsimp only at hSw);  go_simp; try with_reducible rfl)
 try simp only [Act.put, sA, s0, s1]
 refine wpAnyK_takeTL (i := 30) (d := some 60) (v := ?_) #[true, true, true, true, true, true, true, true, true, true, true, true, true, true, true, true, true, true, true, true, true, true, true, true, true, true, true, true, true, true, true, false, false, false, false] (by kernel_rfl) rfl rfl (by kernel_rfl) (by kernel_rfl) (by kernel_rfl) (by kernel_rfl) (by kernel_rfl) (fun _ _ _ h => h) (Or.inl ⟨by rfl, ?_⟩) hHeld ?_
 rotate_left
 ·(intro w hSw; (try dsimp only at hSw);  go_simp; try with_reducible rfl)
 try simp only [Act.put, sA, s0, s1]
 refine wpAnyK_takeTL (i := 31) (d := some 61) (v := ?_) #[true, true, true, true, true, true, true, true, true, true, true, true, true, true, true, true, true, true, true, true, true, true, true, true, true, true, true, true, true, true, true, true, false, false, false] (by kernel_rfl) rfl rfl (by kernel_rfl) (by kernel_rfl) (by kernel_rfl) (by kernel_rfl) (by kernel_rfl) (fun _ _ _ h => h) (Or.inl ⟨by rfl, ?_⟩) hHeld ?_
 rotate_left
 ·(intro w hSw; (try dsimp only at hSw);  go_simp; try with_reducible rfl)
 try simp only [Act.put, sA, s0, s1]
 refine wpAnyK_takeTL (i := 32) (d := some 62) (v := ?_) #[true, true, true, true, true, true, true, true, true, true, true, true, true, true, true, true, true, true, true, true, true, true, true, true, true, true, true, true, true, true, true, true, true, false, false] (by kernel_rfl) rfl rfl (by kernel_rfl) (by kernel_rfl) (by kernel_rfl) (by kernel_rfl) (by kernel_rfl) (fun _ _ _ h => h) (Or.inl ⟨by rfl, ?_⟩) hHeld ?_
 rotate_left
 ·(intro w hSw; (try dsimp only at hSw);  go_simp; try with_reducible rfl)
 try simp only [Act.put, sA, s0, s1]
 refine wpAnyK_oneL (k := 33) #[true, true, true, true, true, true, true, true, true, true, true, true, true, true, true, true, true, true, true, true, true, true, true, true, true, true, true, true, true, true, true, true, true, true, false] false (by kernel_rfl) (by kernel_rfl) (by kernel_rfl) rfl (fun K hK => ?_)
 go_simp
 refine hK.out _ _ (fun h => by cases h) (fun _ => ?_)
 try clear hHeld
 clear hK K
 refine wpAnyK_oneL (k := 34) #[true, true, true, true, true, true, true, true, true, true, true, true, true, true, true, true, true, true, true, true, true, true, true, true, true, true, true, true, true, true, true, true, true, true, true] false (by kernel_rfl) (by kernel_rfl) (by kernel_rfl) rfl (fun K hK => ?_)
 go_simp
 refine hK.out _ _ (fun h => by cases h) (fun _ => ?_)
 try clear hHeld
 clear hK K
 refine wpAnyK_done (by kernel_rfl) ?_ _
 go_wp2_with fail
 go_ret
 exact ⟨rfl, _, HH.out.locks HBX.out HSX.out (fun b off e => by have := HAX.out b off e; have := HQD.out.b.lt; omega) HNX.out, fun h0 => by rw [HLX.out (by rw [← HE.out]; exact h0)]⟩
end Go.Proofs.YtepicjpdhpojnaaGreatDoor
