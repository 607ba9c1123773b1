import Derived.Test.YtlcaebfjdhgcfaaDoorZ16
import Derived.Test.YtlcaebfjdhgcfaaDoorZ05
import Derived.Deep.RegionLaw
import Derived.Deep.RegionWith
import Derived.Deep.DrawnRows
import Derived.Deep.DeepCutAuto
import Derived.Test.YtlcaebfjdhgcfaaDoorZ06
/-
  The statements' maker of networks: walk of its closure 'add'.
-/
namespace Go.Proofs.YtlcaebfjdhgcfaaDoor
open Go.RowKit
attribute [local go_sem ↓] Go.wp_at_zero Go.wp_at_succ
theorem blk_second (w : World) (o : Obj) (T : TypeId) (cs : Array Value) : Blk ((w.alloc o).alloc (.cells cs T)) (w.heap.size + 1) T cs := by
  have := Blk.new (w.alloc o) T cs
  rwa [World.size_alloc] at this
def letterT (k : Nat) : List UInt8 := [[], [76], [81], [68], [69], [83], [71]].getD k []
def AddPost (w0 : World) (g : Nat) (dmax : Int) (An : Option Addr) (nn cn : Nat) (ns : List Nd) (nd : Nat) (ds : List Dv) (kind : Nat) (a b : Int) (e : Ending) (w' : World) : Prop :=
  e = .returned (.tuple #[]) ∧ ∃ (Ad' : Option Addr) (nd' cd' : Nat) (ds' : List Dv), NetSt w0 g dmax An nn cn ns Ad' nd' cd' ds' w' ∧ (dmax ≤ nd → nd' = nd ∧ ds' = ds) ∧ (nd < dmax → nd' = nd + 1 ∧ ∃ comp : Int, 0 ≤ comp ∧ comp ≤ 2 ∧ ds' = ds ++ [⟨mkS (nm2 (letterT kind) nd), kind, a, b, comp⟩])
def AddCut (w0 : World) (g : Nat) (dmax : Int) (An : Option Addr) (nn cn : Nat) (ns : List Nd) (Ad : Option Addr) (nd cd : Nat) (ds : List Dv) (kind : Nat) (a b : Int) (s9 : Value) (wc : World) : Prop :=
  ∃ b9 : Nat, s9 = .pointer (some ⟨b9, 0, none⟩) ∧ NetSt w0 g dmax An nn cn ns Ad nd cd ds wc ∧ Blk wc b9 52 #[.string (mkS (nm2 (letterT kind) nd)), .int .i64 kind, .int .i64 a, .int .i64 b, .int .i64 0] ∧ w0.heap.size + 4 ≤ b9 ∧ (∀ q, (Value.slice An nn cn).ownBlock = some q → q ≠ b9) ∧ (∀ q, (Value.slice Ad nd cd).ownBlock = some q → q ≠ b9)
/-- While the region works: the state stands, and memory has not shrunk. -/
def AddS (w0 : World) (g : Nat) (dmax : Int) (An : Option Addr) (nn cn : Nat) (ns : List Nd) (Ad : Option Addr) (nd cd : Nat) (ds : List Dv) (w W : World) : Prop := NetSt w0 g dmax An nn cn ns Ad nd cd ds W ∧ w.heap.size ≤ W.heap.size
/-- .. and the table of letters lies at block t. -/
def AddT (w0 : World) (g : Nat) (dmax : Int) (An : Option Addr) (nn cn : Nat) (ns : List Nd) (Ad : Option Addr) (nd cd : Nat) (ds : List Dv) (w : World) (LT : ByteArray) (kind t : Nat) (W : World) : Prop := AddS w0 g dmax An nn cn ns Ad nd cd ds w W ∧ W.cell? ⟨t, kind, none⟩ = some (.string LT)
/-- .. and the new box lies at block q. -/
def AddB (w0 : World) (g : Nat) (dmax : Int) (An : Option Addr) (nn cn : Nat) (ns : List Nd) (Ad : Option Addr) (nd cd : Nat) (ds : List Dv) (w : World) (LT : ByteArray) (kind t q : Nat) (W : World) : Prop := AddT w0 g dmax An nn cn ns Ad nd cd ds w LT kind t W ∧ Blk W q 52 #[.string ⟨#[]⟩, .int .i64 0, .int .i64 0, .int .i64 0, .int .i64 0]
section
variable {w0 w W W' : World} {g : Nat} {dmax : Int} {An Ad : Option Addr} {nn cn nd cd kind t : Nat} {ns : List Nd} {ds : List Dv} {LT : ByteArray}
theorem addS_alloc (h : AddS w0 g dmax An nn cn ns Ad nd cd ds w W) (o : Obj) : AddS w0 g dmax An nn cn ns Ad nd cd ds w (W.alloc o) := ⟨h.1.alloc o, by have := h.2; simp; omega⟩
theorem addS_later (h : AddS w0 g dmax An nn cn ns Ad nd cd ds w W) (hb : Below W.heap.size W W') : AddS w0 g dmax An nn cn ns Ad nd cd ds w W' := ⟨h.1.later hb, Nat.le_trans h.2 hb.size⟩
theorem addT_later (h : AddT w0 g dmax An nn cn ns Ad nd cd ds w LT kind t W) (hb : Below W.heap.size W W') : AddT w0 g dmax An nn cn ns Ad nd cd ds w LT kind t W' := ⟨addS_later h.1 hb, (hb.cell (p := ⟨t, kind, none⟩) (cell_lt h.2)).trans h.2⟩
theorem addT_alloc (h : AddT w0 g dmax An nn cn ns Ad nd cd ds w LT kind t W) (o : Obj) : AddT w0 g dmax An nn cn ns Ad nd cd ds w LT kind t (W.alloc o) := addT_later h ((Below.refl _ _).alloc (Nat.le_refl _) _)
theorem addB_later {q : Nat} (h : AddB w0 g dmax An nn cn ns Ad nd cd ds w LT kind t q W) (hb : Below W.heap.size W W') : AddB w0 g dmax An nn cn ns Ad nd cd ds w LT kind t q W' := ⟨addT_later h.1 hb, h.2.below hb h.2.lt⟩
theorem addCut_new {a b : Int} (hT : toL LT = letterT kind) (h : AddS w0 g dmax An nn cn ns Ad nd cd ds w W) (hn : ∀ b, (Value.slice An nn cn).ownBlock = some b → b < w.heap.size) (hd : ∀ b, (Value.slice Ad nd cd).ownBlock = some b → b < w.heap.size) :
    AddCut w0 g dmax An nn cn ns Ad nd cd ds kind a b (.pointer (some ⟨W.heap.size, 0, none⟩)) (W.alloc (.cells #[.string (mkS (nm2 (toL LT) nd)), .int .i64 kind, .int .i64 a, .int .i64 b, .int .i64 0] 52)) := by
  have := h.2
  have hz := h.1.size
  rw [hT]
  exact ⟨W.heap.size, rfl, h.1.alloc _, Blk.new _ _ _, hz, fun q e => by have := hn q e; omega, fun q e => by have := hd q e; omega⟩
theorem addCut_of {a b : Int} {q : Nat} (hT : toL LT = letterT kind) (h : AddS w0 g dmax An nn cn ns Ad nd cd ds w W) (hB : Blk W q 52 #[.string ⟨#[]⟩, .int .i64 0, .int .i64 0, .int .i64 0, .int .i64 0]) (hq : w.heap.size ≤ q) (hw : w0.heap.size + 4 ≤ w.heap.size) (hn : ∀ b, (Value.slice An nn cn).ownBlock = some b → b < w.heap.size) (hd : ∀ b, (Value.slice Ad nd cd).ownBlock = some b → b < w.heap.size) :
    AddCut w0 g dmax An nn cn ns Ad nd cd ds kind a b (.pointer (some ⟨q, 0, none⟩)) (((((W.setCell ⟨q, 0, none⟩ (.string (mkS (nm2 (toL LT) nd)))).setCell ⟨q, 1, none⟩ (.int .i64 kind)).setCell ⟨q, 2, none⟩ (.int .i64 a)).setCell ⟨q, 3, none⟩ (.int .i64 b)).setCell ⟨q, 4, none⟩ (.int .i64 0)) := by
  have e1 : ∀ r, (Value.slice An nn cn).ownBlock = some r → r ≠ q := fun r e => by have := hn r e; omega
  have e2 : ∀ r, (Value.slice Ad nd cd).ownBlock = some r → r ≠ q := fun r e => by have := hd r e; omega
  have hq4 : w0.heap.size + 4 ≤ q := by omega
  rw [hT]
  exact ⟨q, rfl, ((((h.1.store hq4 e1 e2).store hq4 e1 e2).store hq4 e1 e2).store hq4 e1 e2).store hq4 e1 e2, ((((hB.set 0 _).set 1 _).set 2 _).set 3 _).set 4 _, hq4, e1, e2⟩
theorem NetSt.nb_row (h : NetSt w0 g dmax An nn cn ns Ad nd cd ds W) (hg : W.grownBy W' (Value.slice Ad nd cd).ownBlock) : Blk W' (w0.heap.size + 3) 30 #[.slice An nn cn, .slice Ad nd cd] := h.nb.grown hg (fun e => by have := (h.rd.lt _ e.symm).1; omega)
end
end Go.Proofs.YtlcaebfjdhgcfaaDoor
/-
  The statements' maker of networks: what it makes, and its state.
-/
namespace Go.Proofs.YtlcaebfjdhgcfaaDoor
open Go.RowKit
def NdOk (i : Nat) (x : Nd) : Prop := x.name = mkS (nm2 [78] i) ∧ 0 ≤ x.cust ∧ x.cust ≤ 50 ∧ 0 ≤ x.comp ∧ x.comp ≤ 2
def DvOk (k i : Nat) (x : Dv) : Prop := x.name = mkS (nm2 (letterT x.kind.toNat) i) ∧ 1 ≤ x.kind ∧ x.kind ≤ 6 ∧ endsB x.kind x.a x.b k = true ∧ 0 ≤ x.comp ∧ x.comp ≤ 2
def MadeN (ns : List Nd) : Prop := ∀ i x, ns[i]? = some x → NdOk i x
def MadeD (k : Nat) (ds : List Dv) : Prop := ∀ i x, ds[i]? = some x → DvOk k i x
theorem MadeN.snoc {ns : List Nd} (h : MadeN ns) {x : Nd} (hx : NdOk ns.length x) : MadeN (ns ++ [x]) := by
  intro i y hy
  rcases Nat.lt_trichotomy i ns.length with h1 | h1 | h1
  · rw [List.getElem?_append_left h1] at hy; exact h i y hy
  · subst h1; simp at hy; subst hy; exact hx
  · rw [List.getElem?_eq_none (by simp; omega)] at hy; cases hy
theorem MadeD.snoc {k : Nat} {ds : List Dv} (h : MadeD k ds) {x : Dv} (hx : DvOk k ds.length x) : MadeD k (ds ++ [x]) := by
  intro i y hy
  rcases Nat.lt_trichotomy i ds.length with h1 | h1 | h1
  · rw [List.getElem?_append_left h1] at hy; exact h i y hy
  · subst h1; simp at hy; subst hy; exact hx
  · rw [List.getElem?_eq_none (by simp; omega)] at hy; cases hy
/-- The devices that were made so far, at least lo. -/
def NetD (lo : Nat) (w0 : World) (g : Nat) (dmax : Int) (An : Option Addr) (k cn : Nat) (ns : List Nd) (w : World) : Prop :=
  ∃ (Ad : Option Addr) (nd cd : Nat) (ds : List Dv), NetSt w0 g dmax An k cn ns Ad nd cd ds w ∧ (nd : Int) ≤ dmax ∧ lo ≤ nd ∧ ds.length = nd ∧ MadeD k ds
section
variable {w0 w w' : World} {g lo k cn : Nat} {dmax : Int} {An : Option Addr} {ns : List Nd}
theorem NetD.next (h : NetD lo w0 g dmax An k cn ns w) (hd : DeckAt w' g) (hg : w.grownBy w' (some g)) : NetD lo w0 g dmax An k cn ns w' := by
  obtain ⟨Ad, nd, cd, ds, h1, h2⟩ := h
  exact ⟨Ad, nd, cd, ds, h1.next hd hg, h2⟩
theorem NetD.deck (h : NetD lo w0 g dmax An k cn ns w) : DeckAt w g := by
  obtain ⟨Ad, nd, cd, ds, h1, h2⟩ := h
  exact h1.deck
theorem NetD.pc (h : NetD lo w0 g dmax An k cn ns w) : w.cell? ⟨w0.heap.size, 0, none⟩ = some (.pointer (some ⟨g, 0, none⟩)) := by
  obtain ⟨Ad, nd, cd, ds, h1, h2⟩ := h
  exact h1.pb.cell 0
def AddNet (w0 : World) (g : Nat) (dmax : Int) (An : Option Addr) (k cn : Nat) (ns : List Nd) (e : Ending) (w' : World) : Prop := e = .returned (.tuple #[]) ∧ Hid (NetD 1 w0 g dmax An k cn ns w')
end
/-- What a made network is. -/
structure MadeNet (nodes dmax : Int) (ns : List Nd) (ds : List Dv) : Prop where
  n2 : 2 ≤ ns.length
  nm : (ns.length : Int) ≤ nodes
  d1 : 1 ≤ ds.length
  dm : (ds.length : Int) ≤ dmax
  nok : MadeN ns
  dok : MadeD ns.length ds
def NetPost (w : World) (g : Nat) (nodes dmax : Int) (e : Ending) (w' : World) : Prop :=
  ∃ (An : Option Addr) (nn cn : Nat) (ns : List Nd) (Ad : Option Addr) (nd cd : Nat) (ds : List Dv), e = .returned (.agg #[.slice An nn cn, .slice Ad nd cd]) ∧ Hid (DeckAt w' g) ∧ Hid (w.grownBy w' (some g)) ∧
    Hid (w'.ownsRow (w.heap.size + 4) 55 3 (.slice An nn cn) nn (ns.flatMap Nd.cells)) ∧ Hid (w'.ownsRow (w.heap.size + 4) 52 5 (.slice Ad nd cd) nd (ds.flatMap Dv.cells)) ∧ Hid (MadeNet nodes dmax ns ds)
theorem netPost_of {w wr : World} {g nn cn : Nat} {nodes dmax : Int} {An : Option Addr} {ns : List Nd} (Ad : Option Addr) (nd cd : Nat) (ds : List Dv) (h : NetSt w g dmax An nn cn ns Ad nd cd ds wr) (h1 : (nd : Int) ≤ dmax ∧ 1 ≤ nd ∧ ds.length = nd ∧ MadeD nn ds) (h2 : ns.length = nn ∧ MadeN ns) (h3 : 2 ≤ nn ∧ (nn : Int) ≤ nodes) (u v : Value) :
    NetPost w g nodes dmax (.returned (.agg #[.slice An nn cn, .slice Ad nd cd])) ((wr.setCell ⟨w.heap.size + 2, 0, none⟩ u).setCell ⟨w.heap.size + 2, 1, none⟩ v) := by
  have hl := h.lt
  have hg1 : wr.grownBy ((wr.setCell ⟨w.heap.size + 2, 0, none⟩ u).setCell ⟨w.heap.size + 2, 1, none⟩ v) (some (w.heap.size + 2)) := ⟨rfl, rfl, rfl, by simp [World.setCell], fun i _ hi => (Below.heap_setCell _ _ _ i (fun e => hi (by rw [e]))).trans (Below.heap_setCell wr _ _ i (fun e => hi (by rw [e])))⟩
  refine ⟨An, nn, cn, ns, Ad, nd, cd, ds, rfl, ?_, ?_, ?_, ?_, ?_⟩
  · exact (h.deck.setCell (by simp; omega) _).setCell (by simp; omega) _
  · exact grown_set (grown_set h.gr (by simp) _) (by simp) _
  · exact h.rn.kept hg1 (ne_row fun b e => by have := (h.rn.lt b e).1; omega)
  · exact h.rd.kept hg1 (ne_row fun b e => by have := (h.rd.lt b e).1; omega)
  · exact ⟨by rw [h2.1]; exact h3.1, by rw [h2.1]; exact h3.2, by omega, by omega, h2.2, by rw [h2.1]; exact h1.2.2.2⟩
end Go.Proofs.YtlcaebfjdhgcfaaDoor
/-
  Plain: a made network is valid; its names are short.
-/
namespace Go.Proofs.YtlcaebfjdhgcfaaDoor
theorem nm2_inj {a b : List UInt8} {i j : Nat} (hi : i < 100) (hj : j < 100) (hl : a.length = b.length) (h : nm2 a i = nm2 b j) : a = b ∧ i = j := by
  unfold nm2 at h
  have h1 := List.append_inj h hl
  refine ⟨h1.1, ?_⟩
  have h2 := h1.2
  simp only [List.cons.injEq, and_true] at h2
  have e1 := congrArg UInt8.toNat h2.1
  have e2 := congrArg UInt8.toNat h2.2
  rw [UInt8.toNat_ofNat', UInt8.toNat_ofNat'] at e1 e2
  omega
theorem nm2_name (c : UInt8) (i : Nat) (hc : fitC c.toNat true = true) (hi : i < 100) : nameB (nm2 [c] i) = true := by
  unfold nameB nm2
  have e1 : (UInt8.ofNat (48 + i / 10)).toNat = 48 + i / 10 := by rw [UInt8.toNat_ofNat']; omega
  have e2 : (UInt8.ofNat (48 + i % 10)).toNat = 48 + i % 10 := by rw [UInt8.toNat_ofNat']; omega
  have hd : ∀ k : Nat, k < 10 → fitC ((48 + k : Nat) : Int) false = true := by
    intro k hk
    rw [fit_later]
    have : digC ((48 + k : Nat) : Int) = true := by simp [digC]; omega
    rw [this]
    simp
  have hall : ∀ k, k < ([c] ++ [UInt8.ofNat (48 + i / 10), UInt8.ofNat (48 + i % 10)]).length → fitC (([c] ++ [UInt8.ofNat (48 + i / 10), UInt8.ofNat (48 + i % 10)]).getD k 0).toNat (k == 0) = true := by
    intro k hk
    match k, hk with
    | 0, _ => exact hc
    | 1, _ =>
      have := hd (i / 10) (by omega)
      simp only [List.singleton_append, List.getD_cons_succ, List.getD_cons_zero]
      rw [e1]; exact this
    | 2, _ =>
      have := hd (i % 10) (by omega)
      simp only [List.singleton_append, List.getD_cons_succ, List.getD_cons_zero]
      rw [e2]; exact this
    | k + 3, hk => simp at hk; omega
  rw [decide_eq_true hall]
  simp
theorem letterT_one {k : Nat} (h : 1 ≤ k ∧ k ≤ 6) : ∃ c : UInt8, letterT k = [c] ∧ c ≠ 78 ∧ fitC c.toNat true = true := by
  rcases (show k = 1 ∨ k = 2 ∨ k = 3 ∨ k = 4 ∨ k = 5 ∨ k = 6 by omega) with rfl | rfl | rfl | rfl | rfl | rfl
  · exact ⟨76, rfl, by decide, by decide⟩
  · exact ⟨81, rfl, by decide, by decide⟩
  · exact ⟨68, rfl, by decide, by decide⟩
  · exact ⟨69, rfl, by decide, by decide⟩
  · exact ⟨83, rfl, by decide, by decide⟩
  · exact ⟨71, rfl, by decide, by decide⟩
theorem chkN_all {ns : List Nd} (h : ∀ i x, ns[i]? = some x → ndErr (Un ns i) x = 0) : ∀ (k i : Nat), ns.length - i = k → chkN (Un ns i) (ns.drop i) = 0
  | 0, i, hk => by rw [List.drop_eq_nil_of_le (by omega)]; rfl
  | k + 1, i, hk => by
    have hx : ns[i]? = some (ns[i]'(by omega)) := List.getElem?_eq_getElem (by omega)
    rw [(chkN_step hx (h i _ hx)).1, ← Un_succ hx]
    exact chkN_all h k (i + 1) (by omega)
theorem chkD_all {ns : List Nd} {ds : List Dv} (h : ∀ j x, ds[j]? = some x → dvErr ns.length (Ud ns ds j) x = 0) : ∀ (k j : Nat), ds.length - j = k → chkD ns.length (Ud ns ds j) (ds.drop j) = 0
  | 0, j, hk => by rw [List.drop_eq_nil_of_le (by omega)]; rfl
  | k + 1, j, hk => by
    have hx : ds[j]? = some (ds[j]'(by omega)) := List.getElem?_eq_getElem (by omega)
    rw [chkD_step hx (h j _ hx), ← Ud_succ hx]
    exact chkD_all h k (j + 1) (by omega)
section
variable {nodes dmax : Int} {ns : List Nd} {ds : List Dv}
theorem MadeNet.check (h : MadeNet nodes dmax ns ds) (hn : nodes ≤ 32) (hd : dmax ≤ 64) : checkN ns ds = 0 := by
  have hnl := h.nm
  have hdl := h.dm
  have hN := chkN_all (ns := ns) (fun i x hx => by
    obtain ⟨h1, h2, h3, h4, h5⟩ := h.nok i x hx
    have hi : i < ns.length := (List.getElem?_eq_some_iff.1 hx).1
    unfold ndErr
    rw [h1, toL_mk, if_neg (by rw [nm2_name 78 i (by decide) (by omega)]; simp), if_neg ?_, if_neg (by omega), if_neg (by simp [compB]; omega)]
    intro hm
    obtain ⟨k, y, hk, hy, he⟩ := mem_Un.1 hm
    rw [(h.nok k y hy).1, toL_mk] at he
    have := (nm2_inj (by omega) (by omega) rfl he).2
    omega) _ 0 rfl
  have hD := chkD_all (ns := ns) (ds := ds) (fun j x hx => by
    obtain ⟨h1, h2, h3, h4, h5, h6⟩ := h.dok j x hx
    have hj : j < ds.length := (List.getElem?_eq_some_iff.1 hx).1
    obtain ⟨c, hc1, hc2, hc3⟩ := letterT_one (k := x.kind.toNat) (by omega)
    unfold dvErr
    rw [h1, toL_mk, hc1, if_neg (by rw [nm2_name c j hc3 (by omega)]; simp), if_neg ?_, if_neg (by omega), if_neg (by rw [h4]; simp), if_neg (by simp [compB]; omega)]
    intro hm
    rcases mem_Ud.1 hm with ⟨k, y, hk, hy, he⟩ | ⟨k, y, hk, hy, he⟩
    · obtain ⟨g1, g2, g3, _⟩ := h.dok k y hy
      obtain ⟨d, hd1, _, _⟩ := letterT_one (k := y.kind.toNat) (by omega)
      rw [g1, toL_mk, hd1] at he
      have := (nm2_inj (a := [d]) (b := [c]) (i := k) (j := j) (by omega) (by omega) rfl he).2
      omega
    · rw [(h.nok k y hy).1, toL_mk] at he
      have := (nm2_inj (a := [78]) (b := [c]) (i := k) (j := j) (by omega) (by omega) rfl he).1
      injection this with this
      exact hc2 this.symm) _ 0 rfl
  unfold checkN
  rw [if_neg (by omega), if_neg (by omega), if_pos (by simpa [Un] using hN), usedN_Un]
  simpa [Ud, Un] using hD
theorem MadeNet.names (h : MadeNet nodes dmax ns ds) : (∀ x ∈ ns, x.name.size ≤ 9223372036854775807) ∧ (∀ x ∈ ds, x.name.size ≤ 9223372036854775807) := by
  constructor
  · intro x hx
    obtain ⟨j, hj⟩ := List.mem_iff_getElem?.1 hx
    rw [(h.nok j x hj).1, size_mk]
    simp [nm2]
  · intro x hx
    obtain ⟨j, hj⟩ := List.mem_iff_getElem?.1 hx
    obtain ⟨h1, h2, h3, _⟩ := h.dok j x hj
    obtain ⟨c, hc, _⟩ := letterT_one (k := x.kind.toNat) (by omega)
    rw [h1, size_mk, hc]
    simp [nm2]
end
end Go.Proofs.YtlcaebfjdhgcfaaDoor
