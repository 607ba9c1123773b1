import Derived.Test.YtepicjpdhpojnaaGreatDoorS38
import Derived.Test.YtepicjpdhpojnaaGreatDoorS15
import Derived.Test.YtepicjpdhpojnaaGreatDoorS22
import Derived.Test.YtepicjpdhpojnaaGreatDoorS13
import Derived.Test.YtepicjpdhpojnaaGreatDoorS39
import Derived.Test.YtepicjpdhpojnaaGreatDoorS12
import Derived.Test.YtepicjpdhpojnaaGreatDoorS24
namespace Go.Proofs.YtepicjpdhpojnaaGreatDoor
open Go.RowKit
structure FsM (w : World) (nb : Nat) (An Ad As Al At : Option Addr) (cn nd cd n c nl cl nt ct : Nat) (ns : List Nd) (ds : List Dv) (F : Fd) (Az Am : Option Addr) (nz cz nm cm : Nat) (z : List Int) (ls : List Lk) (wr : World) : Prop where
 m : FlM w nb An Ad As Al At cn nd cd n c nl cl nt ct ns ds F wr
 z : SlX wr w.heap.size 1 Az nz cz (intsV z)
 k : SlX wr w.heap.size 3 Am nm cm (ls.flatMap Lk.cells)
theorem FsM.later {w : World} {nb : Nat} {An Ad As Al At : Option Addr} {cn nd cd n c nl cl nt ct : Nat} {ns : List Nd} {ds : List Dv} {F : Fd} {Az Am : Option Addr} {nz cz nm cm : Nat} {z : List Int} {ls : List Lk} {wr wr' : World} (h : FsM w nb An Ad As Al At cn nd cd n c nl cl nt ct ns ds F Az Am nz cz nm cm z ls wr) (hb : Below wr.heap.size wr wr') : FsM w nb An Ad As Al At cn nd cd n c nl cl nt ct ns ds F Az Am nz cz nm cm z ls wr' :=
 ⟨h.m.later hb, h.z.below hb, h.k.below hb⟩
end Go.Proofs.YtepicjpdhpojnaaGreatDoor
namespace Go.Proofs.YtepicjpdhpojnaaGreatDoor
open Go.RowKit
def KpI (ds : List Dv) (i : Nat) (K : List Lk) : Prop := K.length ≤ i ∧ ∀ k ∈ K, ∃ j : Nat, j < i ∧ k.dev = j ∧ k.key = 900 + (j : Int) ∧ (kindOf ds j = 4 ∧ k.pos = 2 ∨ (kindOf ds j = 3 ∨ kindOf ds j = 6) ∧ k.pos = 1)
section
variable {ns : List Nd} {ds : List Dv} {K : List Lk} {s z cl : List Int} {i : Nat} {p : Int} {F : Fd}
theorem KpI.skip (h : KpI ds i K) : KpI ds (i + 1) K := ⟨by have := h.1; omega, fun k hk => by obtain ⟨j, h1, h2⟩ := h.2 k hk; exact ⟨j, by omega, h2⟩⟩
theorem KpI.put (h : KpI ds i K) (hp : kindOf ds i = 4 ∧ p = 2 ∨ (kindOf ds i = 3 ∨ kindOf ds i = 6) ∧ p = 1) : KpI ds (i + 1) (K ++ [⟨(i : Int), p, 900 + (i : Int)⟩]) := by
 refine ⟨by rw [List.length_append, List.length_singleton]; have := h.1; omega, fun k hk => ?_⟩
 rcases List.mem_append.1 hk with hk | hk
 ·obtain ⟨j, h1, h2⟩ := h.2 k hk; exact ⟨j, by omega, h2⟩
 ·rw [List.mem_singleton.1 hk]; exact ⟨i, by omega, rfl, rfl, hp⟩
theorem KpI.free (h : KpI ds i K) : lckL K (i : Int) = none := lck_none.2 fun k hk => by obtain ⟨j, h1, h2, -⟩ := h.2 k hk; omega
theorem idx_at {d q : Int} : ∀ {ls : List Lk} {i : Nat}, idxL d q ls = some i → ∃ y, ls[i]? = some y ∧ y.dev = d ∧ y.key = q
 | [], _, h => by cases h
 | x :: l, i, h => by
  rw [idxL] at h
  by_cases hx : x.dev = d ∧ x.key = q
  ·rw [if_pos hx] at h
   cases h
   exact ⟨x, rfl, hx⟩
  ·rw [if_neg hx] at h
   cases hi : idxL d q l with
   | none => rw [hi] at h; cases h
   | some k =>
    rw [hi] at h
    cases h
    obtain ⟨y, hy, h2⟩ := idx_at hi
    exact ⟨y, by simpa using hy, h2⟩
theorem tw_all {α : Type} {p : α → Bool} : ∀ {l : List α}, (∀ x ∈ l, p x = true) → l.takeWhile p = l ∧ l.dropWhile p = []
 | [], _ => ⟨rfl, rfl⟩
 | a :: l, h => by
  obtain ⟨h1, h2⟩ := tw_all (l := l) fun x hx => h x (List.mem_cons_of_mem _ hx)
  have ha := h a (List.mem_cons_self ..)
  simp [ha, h1, h2]
theorem ins_back {k : Lk} {ls : List Lk} (h : ∀ x ∈ ls, befB x k = true) : insL k ls = ls ++ [k] := by
 unfold insL
 obtain ⟨e1, e2⟩ := tw_all h
 rw [e1, e2]
theorem KpI.ins (h : KpI ds i K) : insL ⟨(i : Int), p, 900 + (i : Int)⟩ K = K ++ [⟨(i : Int), p, 900 + (i : Int)⟩] := ins_back fun x hx => by
 obtain ⟨j, h1, h2, -⟩ := h.2 x hx
 rw [bef_iff]
 exact .inl (by simp only; omega)
theorem KpI.add (h : KpI ds i K) (he : fdErr ns ds ⟨s, K, []⟩ = 0) (hi : i < ds.length) (hk : kindOf ds i ≠ 5) (hp : p = 1 ∨ p = 2) : addErr ns ds K ⟨(i : Int), p, 900 + (i : Int)⟩ = 0 := by
 obtain ⟨hs, hl, -, -⟩ := fdErr_zero he
 have hl : locksErr ns ds K = 0 := hl
 have hdl := (NetOk.of (stateErr_len hs).1).dl
 have hkl := h.1
 rcases new_err (k := ⟨(i : Int), p, 900 + (i : Int)⟩) (stateErr_len hs).1 (locks_good hl) (by omega) (usd_not.2 fun x hx => by obtain ⟨j, h1, -, h3, -⟩ := h.2 x hx; simp only; omega) ⟨by simp only; omega, by simp only; omega⟩ hp ⟨by simp only; omega, by simp only; omega⟩ (oth_not.2 fun x hx e => by obtain ⟨j, h1, h2, -⟩ := h.2 x hx; simp only at e; omega) with ⟨-, h5⟩ | ⟨h0, -⟩
 ·exact absurd h5 hk
 ·exact h0
theorem KpI.moves (h : KpI ds i K) (he : fdErr ns ds ⟨s, K, []⟩ = 0) (hi : i < ds.length) (hk : kindOf ds i ≠ 5) (hp : posB p = true) : fdErr ns ds ⟨s.set i p, K, []⟩ = 0 := by
 have hst : stpErr ns ds ⟨s, K, []⟩ 1 (i : Int) p 0 = 0 := by
  rw [stp_in he ⟨by omega, by omega⟩ rfl]
  unfold evErr
  rw [if_pos rfl, if_neg hk, if_neg (by rw [hp]; simp), h.free, if_neg (by simp)]
 have := evTo_ok hst
 unfold evTo at this
 rw [if_pos (.inl rfl), h.free, if_neg (by simp), if_neg (by decide), Int.toNat_natCast] at this
 exact this
theorem KpI.locks (h : KpI ds i K) (he : fdErr ns ds ⟨s, K, []⟩ = 0) (hi : i < ds.length) (hk : kindOf ds i ≠ 5) (hp : posB p = true) (hp2 : p = 1 ∨ p = 2) (hv : s.getD i 0 = p) : fdErr ns ds ⟨s, K ++ [⟨(i : Int), p, 900 + (i : Int)⟩], []⟩ = 0 := by
 have hst : stpErr ns ds ⟨s, K, []⟩ 6 (i : Int) p (900 + (i : Int)) = 0 := by
  rw [stp_in he ⟨by omega, by omega⟩ rfl]
  unfold evErr
  rw [if_neg (by decide), if_neg (by decide), if_neg (by decide), if_neg (by decide), if_pos rfl, if_pos ⟨hp, by rw [Int.toNat_natCast]; exact hv⟩]
  exact h.add he hi hk hp2
 have := evTo_ok hst
 unfold evTo at this
 rw [if_neg (by decide), if_neg (by decide), if_pos rfl, h.ins] at this
 exact this
theorem kept_stays {k d p q : Int} (h : ∀ x ∈ K, x ∈ F.ls) (hkey : ∀ x ∈ K, 900 ≤ x.key) (hq : q < 801) : ∀ x ∈ K, x ∈ (evTo ds F k d p q).ls := by
 intro x hx
 have hm := h x hx
 unfold evTo
 split
 ·split
  ·exact hm
  ·exact hm
 ·split
  ·exact hm
  ·split
   ·exact (ins_mem ..).2 (.inr hm)
   ·split
    ·cases hi : idxL d q F.ls with
     | none => exact hm
     | some i =>
      simp only
      obtain ⟨y, hy, -, hyk⟩ := idx_at hi
      refine List.mem_eraseIdx_iff_getElem?.2 ?_
      obtain ⟨j, hj⟩ := List.mem_iff_getElem?.1 hm
      refine ⟨j, fun e => ?_, hj⟩
      rw [e] at hj
      have := hkey x hx
      rw [Option.some.inj (hj.symm.trans hy)] at this
      omega
    ·exact hm
theorem kept_sec {nn : Nat} (hnn : ns.length = nn) (he : fdErr ns ds F = 0) (h : ∀ x ∈ K, x ∈ F.ls) (hs : sideErr ns ds K z = 0) (hi : isoB ds (gpsL ds K) z = true) (hb : sidesB ns ds K z = true) (hz : ∀ v ∈ z, 0 ≤ v ∧ v < nn) (hc : IsCols nn ds F.s cl) : secErr ns ds F K z = 0 ∧ secB ns ds F K z cl true = true := by
 refine ⟨by unfold secErr; rw [if_neg (by omega)]; exact hs, ?_⟩
 obtain ⟨hse, hle, hls, -⟩ := fdErr_zero he
 have hok := NetOk.of (stateErr_len hse).1
 rw [sec_yes, sec_no, hb, Bool.and_true, Bool.and_eq_true]
 refine ⟨?_, ?_⟩
 ·unfold allB
  rw [List.take_of_length_le (Nat.le_refl _), List.all_eq_true]
  exact fun k hk => (hasLk_iff _ _).2 (h k hk)
 ·rw [dead_iff hc hz]
  rintro ⟨v, hv, hk⟩
  have hsr : SrcIn ds (gpsL ds K) z := live_src (hnn ▸ hok.a) hv (fun i hg => ?_) hk
  ·unfold isoB at hi; simp only [Bool.not_eq_true', decide_eq_false_iff_not] at hi; exact hi hsr
  ·have hm : (i : Int) ∈ thoTo ds K 1 gapB ds.length := by unfold gpsL hasB at hg; simpa using hg
   have hr := (tho_range hm).2
   have hb := (thoTo_mem (by omega)).1 hm
   unfold thoB at hb
   simp only [Bool.and_eq_true, decide_eq_true_eq] at hb
   obtain ⟨x, hx, hxd, hxp⟩ := lck_mem hb.1
   have hp := hls x (h x hx)
   rw [hxd, Int.toNat_natCast, hxp] at hp
   unfold shutB
   rw [hp]
   rfl
end
def In (w : World) (A : Option Addr) : Prop := ∀ b off, A = some ⟨b, off, none⟩ → b < w.heap.size
theorem In.mono {w w' : World} {A : Option Addr} (h : In w A) (hs : w.heap.size ≤ w'.heap.size) : In w' A := fun b off e => Nat.lt_of_lt_of_le (h b off e) hs
theorem In.of_sl {w : World} {B size n c : Nat} {A : Option Addr} {xs : List Value} (h : Sl w B size A n c xs) (hn : 0 < n) (hB : B ≤ w.heap.size) : In w A := fun b off e => by
 obtain ⟨b', off', e', hb, -⟩ := h.2.2.2.2 hn
 rw [e] at e'
 injection e' with e'
 injection e' with e1
 omega
theorem Sl.off {w w' : World} {size n c : Nat} {A : Option Addr} {xs : List Value} {row : Option Nat} (h : Sl w w.heap.size size A n c xs) (hg : w.grownBy w' row) (ha : ∀ b, row = some b → Ap b A) : Sl w' w'.heap.size size A n c xs := by
 obtain ⟨h1, h2, h3, h4, h5⟩ := h
 refine ⟨h1, h2, h3, h4, fun h0 => ?_⟩
 obtain ⟨b, off, e, hb, hc⟩ := h5 h0
 refine ⟨b, off, e, Nat.lt_of_lt_of_le hb hg.size, fun j u hu => ?_⟩
 rw [← hc j u hu]
 exact World.cell?_of_block (hg.block b hb fun e2 => ha b e2.symm b off e rfl)
structure FzC (w : World) (nb : Nat) (An Ad As Al Az Ak : Option Addr) (cn nd cd c nl cl nz cz mk ck : Nat) (bf : Array Value) (ns : List Nd) (ds : List Dv) (s : List Int) (L K : List Lk) (z : List Int) (wr : World) : Prop where
 x : FdX w.heap.size An Ad As Al none 6 cn nd cd nd c nl cl 0 0 ns ds ⟨s, L, []⟩ wr
 z : SlX wr w.heap.size 1 Az nz cz (intsV z)
 k : LocksO wr (w.heap.size + 1) Ak mk ck K
 bn : Blk wr nb 30 #[.slice An 6 cn, .slice Ad nd cd]
 bf : Blk wr (nb + 1) 35 bf
 o : ∀ b, (Value.slice Ak mk ck).ownBlock = some b → (Ap b An ∧ Ap b Ad ∧ Ap b As ∧ Ap b Al ∧ Ap b Az) ∧ b ≠ nb ∧ b ≠ nb + 1
 i : In wr An ∧ In wr Ad ∧ In wr As ∧ In wr Al ∧ In wr Az
 bl : Below w.heap.size w wr
 ge : w.heap.size < nb
section
variable {w wr wr' : World} {nb : Nat} {An Ad As Al Az Ak : Option Addr} {cn nd cd c nl cl nz cz mk ck : Nat} {bf : Array Value} {ns : List Nd} {ds : List Dv} {s : List Int} {L K : List Lk} {z : List Int}
theorem FzC.later (h : FzC w nb An Ad As Al Az Ak cn nd cd c nl cl nz cz mk ck bf ns ds s L K z wr) (hb : Below wr.heap.size wr wr') : FzC w nb An Ad As Al Az Ak cn nd cd c nl cl nz cz mk ck bf ns ds s L K z wr' :=
 ⟨h.x.later hb, h.z.below hb, h.k.later hb, h.bn.below hb h.bn.lt, h.bf.below hb h.bf.lt, h.o, ⟨h.i.1.mono hb.size, h.i.2.1.mono hb.size, h.i.2.2.1.mono hb.size, h.i.2.2.2.1.mono hb.size, h.i.2.2.2.2.mono hb.size⟩, h.bl.trans (hb.mono h.bl.size), h.ge⟩
theorem FzC.grown (h : FzC w nb An Ad As Al Az Ak cn nd cd c nl cl nz cz mk ck bf ns ds s L K z wr) (hl : Laid w) (hg : wr.grownBy wr' (some w.heap.size)) (hd : DeckAt wr' w.heap.size) : FzC w nb An Ad As Al Az Ak cn nd cd c nl cl nz cz mk ck bf ns ds s L K z wr' := by
 have hge := h.ge
 exact ⟨h.x.grown hl (Nat.le_refl _) hd hg, h.z.grown hg, h.k.kept hg (ne_row fun b e => by have := (h.k.lt b e).1; omega), h.bn.grown hg (fun e => by injection e; omega), h.bf.grown hg (fun e => by injection e; omega), h.o, ⟨h.i.1.mono hg.size, h.i.2.1.mono hg.size, h.i.2.2.1.mono hg.size, h.i.2.2.2.1.mono hg.size, h.i.2.2.2.2.mono hg.size⟩, h.bl.trans (below_of_grown hg (Nat.le_refl _) h.bl.size), hge⟩
theorem FzC.setS {A' : Option Addr} {c' : Nat} {s' : List Int} (h : FzC w nb An Ad As Al Az Ak cn nd cd c nl cl nz cz mk ck bf ns ds s L K z wr) (hb : Below wr.heap.size wr wr') (ho : IntsO wr' wr.heap.size A' nd c' s') (hnd : 0 < nd) : FzC w nb An Ad A' Al Az Ak cn nd cd c' nl cl nz cz mk ck bf ns ds s' L K z wr' := by
 have h1 := h.later hb
 have hgl := h.x.dk.lt
 exact ⟨⟨h1.x.dk, h1.x.hn, h1.x.hd, SlX.of_own ho hgl, h1.x.hl, h1.x.ht, h1.x.la, h1.x.sn, h1.x.sd⟩, h1.z, h1.k, h1.bn, h1.bf, fun b e => ⟨⟨(h.o b e).1.1, (h.o b e).1.2.1, ap_own ho (h.k.lt b e).2, (h.o b e).1.2.2.2⟩, (h.o b e).2⟩, ⟨h1.i.1, h1.i.2.1, In.of_sl ho.sl hnd (Nat.le_refl _), h1.i.2.2.2⟩, h1.bl, h1.ge⟩
theorem FzC.setL {A' : Option Addr} {n' c' : Nat} {L' : List Lk} (h : FzC w nb An Ad As Al Az Ak cn nd cd c nl cl nz cz mk ck bf ns ds s L K z wr) (hb : Below wr.heap.size wr wr') (ho : LocksO wr' wr.heap.size A' n' c' L') (hn : 0 < n') : FzC w nb An Ad As A' Az Ak cn nd cd c n' c' nz cz mk ck bf ns ds s L' K z wr' := by
 have h1 := h.later hb
 have hgl := h.x.dk.lt
 exact ⟨⟨h1.x.dk, h1.x.hn, h1.x.hd, h1.x.hs, SlX.of_own ho hgl, h1.x.ht, h1.x.la, h1.x.sn, h1.x.sd⟩, h1.z, h1.k, h1.bn, h1.bf, fun b e => ⟨⟨(h.o b e).1.1, (h.o b e).1.2.1, (h.o b e).1.2.2.1, ap_own ho (h.k.lt b e).2, (h.o b e).1.2.2.2.2⟩, (h.o b e).2⟩, ⟨h1.i.1, h1.i.2.1, h1.i.2.2.1, In.of_sl ho.sl hn (Nat.le_refl _), h1.i.2.2.2.2⟩, h1.bl, h1.ge⟩
variable {x : Nat} {t : TypeId} {A1 A2 A3 B1 B2 B3 : Option Addr} {n1 c1 n2 c2 n3 c3 m1 d1 m2 d2 m3 d3 : Nat}
theorem locks_out3 {base n c : Nat} {A : Option Addr} {K : List Lk} (h : LocksO wr base A n c K) (hx : ∀ b, (Value.slice A n c).ownBlock = some b → b ≠ x) (u v t : Value) : LocksO (((wr.setCell ⟨x, 0, none⟩ u).setCell ⟨x, 1, none⟩ v).setCell ⟨x, 2, none⟩ t) base A n c K :=
 ((World.ownsRow.kept h (grown_cell _ ⟨x, 0, none⟩ _) (ne_row hx)).kept (grown_cell _ ⟨x, 1, none⟩ _) (ne_row hx)).kept (grown_cell _ ⟨x, 2, none⟩ _) (ne_row hx)
theorem FzC.out3 (h : FzC w nb An Ad As Al Az Ak cn nd cd c nl cl nz cz mk ck bf ns ds s L K z wr) (hl : Laid w) (hx : Blk wr x t #[.slice B1 m1 d1, .slice B2 m2 d2, .slice B3 m3 d3]) (hxb : nb + 1 < x) (ho : ∀ b, (Value.slice Ak mk ck).ownBlock = some b → b ≠ x) :
 FzC w nb An Ad As Al Az Ak cn nd cd c nl cl nz cz mk ck bf ns ds s L K z (((wr.setCell ⟨x, 0, none⟩ (.slice A1 n1 c1)).setCell ⟨x, 1, none⟩ (.slice A2 n2 c2)).setCell ⟨x, 2, none⟩ (.slice A3 n3 c3)) := by
 have hge := h.ge
 exact ⟨h.x.out3 hx (by omega) hl (by omega), h.z.apart3 hx (nosl_int _), locks_out3 h.k ho _ _ _, ((h.bn.far (p := ⟨x, 0, none⟩) (by simp; omega) _).far (p := ⟨x, 1, none⟩) (by simp; omega) _).far (p := ⟨x, 2, none⟩) (by simp; omega) _, ((h.bf.far (p := ⟨x, 0, none⟩) (by simp; omega) _).far (p := ⟨x, 1, none⟩) (by simp; omega) _).far (p := ⟨x, 2, none⟩) (by simp; omega) _, h.o, by simpa [In] using h.i, ((h.bl.setCell (by simp; omega) _).setCell (by simp; omega) _).setCell (by simp; omega) _, hge⟩
theorem FzC.take (h : FzC w nb An Ad As Al Az Ak cn nd cd c nl cl nz cz mk ck #[.slice B1 m1 d1, .slice B2 m2 d2, .slice B3 m3 d3] ns ds s L K z wr) (hl : Laid w) :
 FzC w nb An Ad As Al Az Ak cn nd cd c nl cl nz cz mk ck #[.slice A1 n1 c1, .slice A2 n2 c2, .slice A3 n3 c3] ns ds s L K z (((wr.setCell ⟨nb + 1, 0, none⟩ (.slice A1 n1 c1)).setCell ⟨nb + 1, 1, none⟩ (.slice A2 n2 c2)).setCell ⟨nb + 1, 2, none⟩ (.slice A3 n3 c3)) := by
 have hge := h.ge
 exact ⟨h.x.out3 h.bf (by omega) hl (by omega), h.z.apart3 h.bf (nosl_int _), locks_out3 h.k (fun b e => (h.o b e).2.2) _ _ _, ((h.bn.far (p := ⟨nb + 1, 0, none⟩) (by simp) _).far (p := ⟨nb + 1, 1, none⟩) (by simp) _).far (p := ⟨nb + 1, 2, none⟩) (by simp) _, ((h.bf.set 0 _).set 1 _).set 2 _, h.o, by simpa [In] using h.i, ((h.bl.setCell (by simp; omega) _).setCell (by simp; omega) _).setCell (by simp; omega) _, hge⟩
theorem FzC.app {A' : Option Addr} {m' c' : Nat} {K' : List Lk} (h : FzC w nb An Ad As Al Az Ak cn nd cd c nl cl nz cz mk ck bf ns ds s L K z wr) (hl : Laid w) (ho : LocksO wr' (w.heap.size + 1) A' m' c' K') (hg : wr.grownBy wr' (Value.slice Ak mk ck).ownBlock) (hat : (Value.slice A' m' c').ownBlock = (Value.slice Ak mk ck).ownBlock ∨ (Value.slice A' m' c').ownBlock = some wr.heap.size) :
 FzC w nb An Ad As Al Az A' cn nd cd c nl cl nz cz m' c' bf ns ds s L K' z wr' := by
 have hge := h.ge
 have hlt : ∀ b, (Value.slice Ak mk ck).ownBlock = some b → w.heap.size + 1 ≤ b := fun b e => (h.k.lt b e).1
 have hap : ∀ {A : Option Addr}, (∀ b, (Value.slice Ak mk ck).ownBlock = some b → Ap b A) → In wr A → ∀ b, (Value.slice A' m' c').ownBlock = some b → Ap b A := fun h1 h2 b e => by
  rcases hat with e2 | e2
  ·exact h1 b (e2.symm.trans e)
  ·intro b2 off eA
   rw [e2] at e
   injection e with e
   have := h2 b2 off eA
   omega
 have hla : Laid wr' := by
  cases hr : (Value.slice Ak mk ck).ownBlock with
  | none => rw [hr] at hg; exact h.x.la.below ⟨hg.os, hg.tape, hg.output, hg.size, fun i hi => hg.block i hi (fun e => by cases e)⟩ (Nat.le_refl _)
  | some b => rw [hr] at hg; exact h.x.la.grown hl hg (by have := hlt b hr; omega)
 have hbn := h.bn.lt
 have hbf := h.bf.lt
 refine ⟨⟨h.x.dk.grown hg (fun b e => by have := hlt b e; omega), ⟨h.x.hn.1.off hg fun b e => (h.o b e).1.1, h.x.hn.2⟩, ⟨h.x.hd.1.off hg fun b e => (h.o b e).1.2.1, h.x.hd.2⟩, ⟨h.x.hs.1.off hg fun b e => (h.o b e).1.2.2.1, h.x.hs.2⟩, ⟨h.x.hl.1.off hg fun b e => (h.o b e).1.2.2.2.1, h.x.hl.2⟩, SlX.nil _ _ _, hla, h.x.sn, h.x.sd⟩, ⟨h.z.1.off hg fun b e => (h.o b e).1.2.2.2.2, h.z.2⟩, ho, h.bn.grown hg (fun e => (h.o nb e.symm).2.1 rfl), h.bf.grown hg (fun e => (h.o _ e.symm).2.2 rfl),
  fun b e => ⟨⟨hap (fun b e => (h.o b e).1.1) h.i.1 b e, hap (fun b e => (h.o b e).1.2.1) h.i.2.1 b e, hap (fun b e => (h.o b e).1.2.2.1) h.i.2.2.1 b e, hap (fun b e => (h.o b e).1.2.2.2.1) h.i.2.2.2.1 b e, hap (fun b e => (h.o b e).1.2.2.2.2) h.i.2.2.2.2 b e⟩, ?_⟩, ⟨h.i.1.mono hg.size, h.i.2.1.mono hg.size, h.i.2.2.1.mono hg.size, h.i.2.2.2.1.mono hg.size, h.i.2.2.2.2.mono hg.size⟩, h.bl.trans ⟨hg.os, hg.tape, hg.output, hg.size, fun i hi => hg.block i (by have := h.bl.size; omega) (fun e => by have := hlt i e.symm; omega)⟩, hge⟩
 rcases hat with e2 | e2
 ·exact (h.o b (e2.symm.trans e)).2
 ·rw [e2] at e
  injection e with e
  omega
end
end Go.Proofs.YtepicjpdhpojnaaGreatDoor
namespace Go.Proofs.YtepicjpdhpojnaaGreatDoor
open Go.RowKit
theorem StepPost.any {w w' : World} {ns : List Nd} {ds : List Dv} {F : Fd} {k d p q : Int} {e : Ending} (h : StepPost w ns ds F k d p q e w') :
 ∃ (A1 A2 A3 : Option Addr) (n1 c1 n2 c2 n3 c3 : Nat), e = .returned (.tuple #[.agg #[.slice A1 n1 c1, .slice A2 n2 c2, .slice A3 n3 c3], .int .i64 (stpErr ns ds F k d p q)]) ∧ Hid (stpErr ns ds F k d p q = 0 → IntsO w' w.heap.size A1 n1 c1 (evTo ds F k d p q).s ∧ LocksO w' w.heap.size A2 n2 c2 (evTo ds F k d p q).ls ∧ IntsO w' w.heap.size A3 n3 c3 (evTo ds F k d p q).st) ∧ Hid (Below w.heap.size w w') := by
 obtain ⟨⟨h1, h2⟩ | ⟨h0, A1, A2, A3, n1, c1, n2, c2, n3, c3, h1, h2, h3, h4⟩, h5⟩ := h
 ·exact ⟨none, none, none, 0, 0, 0, 0, 0, 0, h2, fun e => absurd e h1, h5⟩
 ·exact ⟨A1, A2, A3, n1, c1, n2, c2, n3, c3, by rw [h1, h0], fun _ => ⟨h2.out, h3.out, h4.out⟩, h5⟩
structure ClS (w : World) (nb : Nat) (An Ad As Al At B1 B2 B3 : Option Addr) (cn nd cd n c nl cl nt ct m1 d1 m2 d2 m3 d3 bs o : Nat) (pos : Int) (x y z : Value) (wr : World) : Prop where
 bn : Blk wr nb 30 #[.slice An 6 cn, .slice Ad nd cd]
 bf : Blk wr (nb + 1) 35 #[.slice As n c, .slice Al nl cl, .slice At nt ct]
 bx : Blk wr w.heap.size 35 #[.slice B1 m1 d1, .slice B2 m2 d2, .slice B3 m3 d3]
 by_ : Blk wr (w.heap.size + 1) 35 #[x, y, z]
 pc : wr.cell? ⟨bs, o, none⟩ = some (.int .i64 pos)
 bl : Below w.heap.size w wr
 hb : bs < w.heap.size
 hn : nb + 1 < w.heap.size
section
variable {w wr wr' : World} {nb : Nat} {An Ad As Al At B1 B2 B3 : Option Addr} {cn nd cd n c nl cl nt ct m1 d1 m2 d2 m3 d3 bs o : Nat} {pos : Int} {x y z : Value}
theorem ClS.later (h : ClS w nb An Ad As Al At B1 B2 B3 cn nd cd n c nl cl nt ct m1 d1 m2 d2 m3 d3 bs o pos x y z wr) (hb : Below wr.heap.size wr wr') : ClS w nb An Ad As Al At B1 B2 B3 cn nd cd n c nl cl nt ct m1 d1 m2 d2 m3 d3 bs o pos x y z wr' :=
 ⟨h.bn.below hb h.bn.lt, h.bf.below hb h.bf.lt, h.bx.below hb h.bx.lt, h.by_.below hb h.by_.lt, (hb.cell (p := ⟨bs, o, none⟩) (Nat.lt_of_lt_of_le h.hb h.bl.size)).trans h.pc, h.bl.trans (hb.mono h.bl.size), h.hb, h.hn⟩
theorem ClS.put (h : ClS w nb An Ad As Al At B1 B2 B3 cn nd cd n c nl cl nt ct m1 d1 m2 d2 m3 d3 bs o pos x y z wr) (u v t : Value) : ClS w nb An Ad As Al At B1 B2 B3 cn nd cd n c nl cl nt ct m1 d1 m2 d2 m3 d3 bs o pos u v t (((wr.setCell ⟨w.heap.size + 1, 0, none⟩ u).setCell ⟨w.heap.size + 1, 1, none⟩ v).setCell ⟨w.heap.size + 1, 2, none⟩ t) := by
 have h1 := h.hb
 have h2 := h.hn
 have f : ∀ {q : Nat} {T : TypeId} {cs : Array Value}, q ≠ w.heap.size + 1 → Blk wr q T cs → Blk (((wr.setCell ⟨w.heap.size + 1, 0, none⟩ u).setCell ⟨w.heap.size + 1, 1, none⟩ v).setCell ⟨w.heap.size + 1, 2, none⟩ t) q T cs := fun hq hk => ((hk.far (p := ⟨w.heap.size + 1, 0, none⟩) hq _).far (p := ⟨w.heap.size + 1, 1, none⟩) hq _).far (p := ⟨w.heap.size + 1, 2, none⟩) hq _
 refine ⟨f (by omega) h.bn, f (by omega) h.bf, f (by omega) h.bx, ((h.by_.set 0 u).set 1 v).set 2 t, ?_, ((h.bl.setCell (by simp) _).setCell (by simp) _).setCell (by simp) _, h.hb, h.hn⟩
 rw [World.cell?_setCell_other _ _ _ _ (fun e => by have := congrArg Addr.block e; simp at this; omega), World.cell?_setCell_other _ _ _ _ (fun e => by have := congrArg Addr.block e; simp at this; omega), World.cell?_setCell_other _ _ _ _ (fun e => by have := congrArg Addr.block e; simp at this; omega)]
 exact h.pc
end
end Go.Proofs.YtepicjpdhpojnaaGreatDoor
