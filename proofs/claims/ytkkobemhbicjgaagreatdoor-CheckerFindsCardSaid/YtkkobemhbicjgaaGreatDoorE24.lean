import Derived.Test.YtkkobemhbicjgaaGreatDoorE15
namespace Go.Proofs.YtkkobemhbicjgaaGreatDoor
theorem qK {a b : List UInt8} {i j : Nat} (hi : i < 100) (hj : j < 100) (hl : a.length = b.length) (h : nm2 a i = nm2 b j) : a = b ∧ i = j := by
 unfold nm2 at h
 have h1 := List.append_inj h hl
 refine ⟨h1.1, ?_⟩
 have h2 := h1.2
 simp only [List.cons.injEq, and_true] at h2
 have e1 := congrArg UInt8.toNat h2.1
 have e2 := congrArg UInt8.toNat h2.2
 rw [UInt8.toNat_ofNat', UInt8.toNat_ofNat'] at e1 e2
 omega
theorem sK (c : UInt8) (i : Nat) (hc : tA c.toNat true = true) (hi : i < 100) : yl (nm2 [c] i) = true := by
 unfold yl nm2
 have e1 : (UInt8.ofNat (48 + i / 10)).toNat = 48 + i / 10 := by rw [UInt8.toNat_ofNat']; omega
 have e2 : (UInt8.ofNat (48 + i % 10)).toNat = 48 + i % 10 := by rw [UInt8.toNat_ofNat']; omega
 have hd : ∀ k : Nat, k < 10 → tA ((48 + k : Nat) : Int) false = true := by
  intro k hk
  rw [lY]
  have : ie ((48 + k : Nat) : Int) = true := by simp [ie]; omega
  rw [this]
  simp
 have hall : ∀ k, k < ([c] ++ [UInt8.ofNat (48 + i / 10), UInt8.ofNat (48 + i % 10)]).length → tA (([c] ++ [UInt8.ofNat (48 + i / 10), UInt8.ofNat (48 + i % 10)]).getD k 0).toNat (k == 0) = true := by
  intro k hk
  match k, hk with
  | 0, _ => exact hc
  | 1, _ =>
   have := hd (i / 10) (by omega)
   simp only [List.singleton_append, List.getD_cons_succ, List.getD_cons_zero]
   rw [e1]; exact this
  | 2, _ =>
   have := hd (i % 10) (by omega)
   simp only [List.singleton_append, List.getD_cons_succ, List.getD_cons_zero]
   rw [e2]; exact this
  | k + 3, hk => simp at hk; omega
 rw [decide_eq_true hall]
 simp
theorem vR {k : Nat} (h : 1 ≤ k ∧ k ≤ 6) : ∃ c : UInt8, yq k = [c] ∧ c ≠ 78 ∧ tA c.toNat true = true := by
 rcases (show k = 1 ∨ k = 2 ∨ k = 3 ∨ k = 4 ∨ k = 5 ∨ k = 6 by omega) with rfl | rfl | rfl | rfl | rfl | rfl
 ·exact ⟨76, rfl, by decide, by decide⟩
 ·exact ⟨81, rfl, by decide, by decide⟩
 ·exact ⟨68, rfl, by decide, by decide⟩
 ·exact ⟨69, rfl, by decide, by decide⟩
 ·exact ⟨83, rfl, by decide, by decide⟩
 ·exact ⟨71, rfl, by decide, by decide⟩
theorem pz {ns : List Nd} (h : ∀ i x, ns[i]? = some x → vy (Un ns i) x = 0) : ∀ (k i : Nat), ns.length - i = k → uL (Un ns i) (ns.drop i) = 0
 | 0, i, hk => by rw [List.drop_eq_nil_of_le (by omega)]; rfl
 | k + 1, i, hk => by
  have hx : ns[i]? = some (ns[i]'(by omega)) := List.getElem?_eq_getElem (by omega)
  rw [(rc hx (h i _ hx)).1, ← ip hx]
  exact pz h k (i + 1) (by omega)
theorem oA {ns : List Nd} {ds : List Dv} (h : ∀ j x, ds[j]? = some x → vB ns.length (Ud ns ds j) x = 0) : ∀ (k j : Nat), ds.length - j = k → ul ns.length (Ud ns ds j) (ds.drop j) = 0
 | 0, j, hk => by rw [List.drop_eq_nil_of_le (by omega)]; rfl
 | k + 1, j, hk => by
  have hx : ds[j]? = some (ds[j]'(by omega)) := List.getElem?_eq_getElem (by omega)
  rw [re hx (h j _ hx), ← iq hx]
  exact oA h k (j + 1) (by omega)
section
variable {nodes dmax : Int} {ns : List Nd} {ds : List Dv}
theorem vr.check (h : vr nodes dmax ns ds) (hn : nodes ≤ 32) (hd : dmax ≤ 64) : za ns ds = 0 := by
 have hnl := h.nm
 have hdl := h.dm
 have hN := pz (ns := ns) (fun i x hx => by
  obtain ⟨h1, h2, h3, h4, h5⟩ := h.nok i x hx
  have hi : i < ns.length := (List.getElem?_eq_some_iff.1 hx).1
  unfold vy
  rw [h1, wb, if_neg (by rw [sK 78 i (by decide) (by omega)]; simp), if_neg ?_, if_neg (by omega), if_neg (by simp [vC]; omega)]
  intro hm
  obtain ⟨k, y, hk, hy, he⟩ := jA.1 hm
  rw [(h.nok k y hy).1, wb] at he
  have := (qK (by omega) (by omega) rfl he).2
  omega) _ 0 rfl
 have hD := oA (ns := ns) (ds := ds) (fun j x hx => by
  obtain ⟨h1, h2, h3, h4, h5, h6⟩ := h.dok j x hx
  have hj : j < ds.length := (List.getElem?_eq_some_iff.1 hx).1
  obtain ⟨c, hc1, hc2, hc3⟩ := vR (k := x.kind.toNat) (by omega)
  unfold vB
  rw [h1, wb, hc1, if_neg (by rw [sK c j hc3 (by omega)]; simp), if_neg ?_, if_neg (by omega), if_neg (by rw [h4]; simp), if_neg (by simp [vC]; omega)]
  intro hm
  rcases gW.1 hm with ⟨k, y, hk, hy, he⟩ | ⟨k, y, hk, hy, he⟩
  ·obtain ⟨g1, g2, g3, _⟩ := h.dok k y hy
   obtain ⟨d, hd1, _, _⟩ := vR (k := y.kind.toNat) (by omega)
   rw [g1, wb, hd1] at he
   have := (qK (a := [d]) (b := [c]) (i := k) (j := j) (by omega) (by omega) rfl he).2
   omega
  ·rw [(h.nok k y hy).1, wb] at he
   have := (qK (a := [78]) (b := [c]) (i := k) (j := j) (by omega) (by omega) rfl he).1
   injection this with this
   exact hc2 this.symm) _ 0 rfl
 unfold za
 rw [if_neg (by omega), if_neg (by omega), if_pos (by simpa [Un] using hN), qs]
 simpa [Ud, Un] using hD
theorem vr.names (h : vr nodes dmax ns ds) : (∀ x ∈ ns, x.name.size ≤ 9223372036854775807) ∧ (∀ x ∈ ds, x.name.size ≤ 9223372036854775807) := by
 constructor
 ·intro x hx
  obtain ⟨j, hj⟩ := List.mem_iff_getElem?.1 hx
  rw [(h.nok j x hj).1, rz]
  simp [nm2]
 ·intro x hx
  obtain ⟨j, hj⟩ := List.mem_iff_getElem?.1 hx
  obtain ⟨h1, h2, h3, _⟩ := h.dok j x hj
  obtain ⟨c, hc, _⟩ := vR (k := x.kind.toNat) (by omega)
  rw [h1, rz, hc]
  simp [nm2]
end
end Go.Proofs.YtkkobemhbicjgaaGreatDoor
