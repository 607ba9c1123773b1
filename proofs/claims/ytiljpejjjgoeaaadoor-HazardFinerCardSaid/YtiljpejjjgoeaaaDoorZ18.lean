import Derived.Test.YtiljpejjjgoeaaaDoorZ17
/-
  Layer 12, plain: duties where no source is closed.
-/
namespace Go.Proofs.YtiljpejjjgoeaaaDoor
section
variable {nn : Nat} {ns : List Nd} {ds : List Dv} {s : List Int} {i : Nat} {x : Dv}
end
end Go.Proofs.YtiljpejjjgoeaaaDoor
/-
  Layer 12, plain: what duties mean for the supply.
-/
namespace Go.Proofs.YtiljpejjjgoeaaaDoor
theorem least {Q : Nat → Prop} : ∀ n, Q n → ∃ m, Q m ∧ ∀ k, Q k → m ≤ k := by
  intro n
  induction n using Nat.strongRecOn with
  | ind n ih =>
    intro h
    by_cases hx : ∃ k, k < n ∧ Q k
    · obtain ⟨k, hk, hq⟩ := hx; exact ih k hk hq
    · exact ⟨n, h, fun k hk => Nat.le_of_not_lt (fun hl => hx ⟨k, hl, hk⟩)⟩
/-- A node is supplied as far as its colour says. -/
def Sup (ds : List Dv) (s : List Int) (v : Int) : Prop := HasK liveK ds s v ∧ ¬ HasK (· = 4) ds s v
theorem sup_col {ds : List Dv} {s : List Int} {v : Int} : colV ds s v = 1 ↔ Sup ds s v := by
  unfold colV Sup
  rcases ind_cases (HasK liveK ds s v) 1 with ⟨h, e⟩ | ⟨h, e⟩ <;> rcases ind_cases (HasK (· = 4) ds s v) 2 with ⟨h2, e2⟩ | ⟨h2, e2⟩ <;> rw [e, e2] <;> simp [h, h2]
section
variable {nn : Nat} {ns : List Nd} {ds : List Dv} {s : List Int} {i : Nat} {x : Dv}
theorem parts_iff {P : List Int} (hP : IsParts nn ds s P) {u v : Int} (hu : 0 ≤ u ∧ u < nn) (hv : 0 ≤ v ∧ v < nn) : P.getD u.toNat 0 = P.getD v.toNat 0 ↔ Conn ds s u v := by
  obtain ⟨a, rfl⟩ := Int.eq_ofNat_of_zero_le hu.1
  obtain ⟨b, rfl⟩ := Int.eq_ofNat_of_zero_le hv.1
  rw [Int.toNat_natCast, Int.toNat_natCast, ← hP.iff (by omega) (by omega)]
  obtain ⟨p, hp, _⟩ := hP.2 a (by omega)
  obtain ⟨q, hq, _⟩ := hP.2 b (by omega)
  rw [getD_of hp, getD_of hq, hp, hq]
  simp
def Means (ns : List Nd) (ds : List Dv) (o c : List Int) (d : Int) : Prop :=
  (d = 0 ∨ d = 1 → ∀ (v : Nat) (y : Nd), ns[v]? = some y → 0 < y.cust → (Sup ds c v ↔ Sup ds o v)) ∧
  (d = 2 → (∃ (v : Nat) (y : Nd), ns[v]? = some y ∧ 0 < y.cust ∧ Sup ds c v ∧ ¬ Sup ds o v) ∧ ∀ v : Int, Sup ds o v → Sup ds c v) ∧
  (d = 3 → ∀ v : Int, Sup ds c v ↔ Sup ds o v)
theorem Means.fault {o c : List Int} : Means ns ds o c 4 := ⟨fun h => by omega, fun h => by omega, fun h => by omega⟩
theorem Means.same {o c : List Int} {d : Int} (h : ∀ v : Int, Sup ds c v ↔ Sup ds o v) (hd : d ≠ 2) : Means ns ds o c d := ⟨fun _ v _ _ _ => h v, fun e => absurd e hd, fun _ => h⟩
open Classical in
theorem Means.one {o c P : List Int} {q : Int} (hP : IsParts nn ds o P) (hl : ns.length = nn) (hq : 0 ≤ q ∧ q < nn)
    (h1 : ∀ v, Conn ds o q v → Sup ds c v ∧ ¬ Sup ds o v) (h2 : ∀ v, ¬ Conn ds o q v → (Sup ds c v ↔ Sup ds o v)) :
    Means ns ds o c (if ∃ (v : Nat) (y : Nd), v < ns.length ∧ ns[v]? = some y ∧ 0 < y.cust ∧ P.getD v 0 = P.getD q.toNat 0 then 2 else 1) := by
  have pc : ∀ v : Nat, v < nn → (P.getD v 0 = P.getD q.toNat 0 ↔ Conn ds o q v) := by
    intro v hv
    have h := parts_iff hP (u := q) (v := v) hq ⟨by omega, by omega⟩
    rw [Int.toNat_natCast] at h
    exact ⟨fun e => h.1 e.symm, fun e => (h.2 e).symm⟩
  split
  · rename_i hx
    obtain ⟨v, y, hv, hy, hc, hp⟩ := hx
    have k := h1 v ((pc v (by omega)).1 hp)
    refine ⟨fun h => by omega, fun _ => ⟨⟨v, y, hy, hc, k.1, k.2⟩, fun u hu => ?_⟩, fun h => by omega⟩
    by_cases hcn : Conn ds o q u
    · exact (h1 u hcn).1
    · exact (h2 u hcn).2 hu
  · rename_i hx
    refine ⟨fun _ v y hy hc => h2 v (fun hcn => hx ?_), fun h => by omega, fun h => by omega⟩
    have hv := (List.getElem?_eq_some_iff.1 hy).1
    exact ⟨v, y, hv, hy, hc, (pc v (by omega)).2 hcn⟩
end
end Go.Proofs.YtiljpejjjgoeaaaDoor
