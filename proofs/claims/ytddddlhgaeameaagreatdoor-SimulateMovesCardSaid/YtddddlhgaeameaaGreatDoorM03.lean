import Derived.Deep.OwnRows
import Derived.Deep.AppendSrc
import Derived.Deep.LoopGhost
import Derived.Test.YtddddlhgaeameaaGreatDoorM02
set_option maxRecDepth 100000
set_option maxHeartbeats 1000000
namespace Go.Proofs.YtddddlhgaeameaaGreatDoor
section
open Go.RowKit
theorem wA : xV Tryz.prog 22 3 1 8 := xV.mk' (z := .int .i64 0) Tryz.underlying22 (by kernel_rfl) rfl (by decide)
theorem qB {α : Type} (f : α → Value) (l : List α) : (l.flatMap fun x => [f x]) = l.map f := by
 induction l with
 | nil => rfl
 | cons x l ih => rw [List.flatMap_cons, ih]; rfl
theorem yK (l : List Int) : zK l = l.map (Value.int .i64) := qB _ _
theorem yF (a b : List Int) : zK (a ++ b) = zK a ++ zK b := List.flatMap_append
theorem mj (l : List Int) (i : Nat) (x : Int) : (zK l).set i (.int .i64 x) = zK (l.set i x) := by rw [yK, yK, List.map_set]
theorem sD (n : Nat) (x : Int) : List.replicate n (Value.int .i64 x) = zK (List.replicate n x) := by rw [yK, List.map_replicate]
theorem vL (l : List Int) : (zK l).length = l.length := by rw [yK, List.length_map]
def zU (w : World) (base : Nat) (A : Option Addr) (n c : Nat) (l : List Int) : Prop := w.ownsRow base 3 1 (.slice A n c) n (zK l)
section
variable {w w' : World} {base n c i : Nat} {A : Option Addr} {l : List Int}
theorem zU.len (h : zU w base A n c l) : l.length = n := by have := h.1; rw [vL] at this; omega
theorem zU.sl (h : zU w base A n c l) : Sl w w.heap.size 1 A n c (zK l) := Sl.of_own h
theorem wG {e : TypeId} {xs : List Value} (h : w.ownsRow base e 1 (.slice A n c) n xs) (hi : 0 < n) : ∃ g, A = some ⟨g, 0, none⟩ ∧ base ≤ g ∧ g < w.heap.size := by
 have hl := h.lt
 rcases h.2 with ⟨hv, hn⟩ | ⟨g, cap, cur, hv, hb, _⟩
 ·omega
 ·injection hv with h1
  subst h1
  exact ⟨g, rfl, hb, (hl g rfl).2⟩
theorem zU.at (h : zU w base A n c l) (hi : i < n) : ∃ g x, A = some ⟨g, 0, none⟩ ∧ base ≤ g ∧ g < w.heap.size ∧ l[i]? = some x ∧ w.cell? ⟨g, i, none⟩ = some (.int .i64 x) ∧ w.frozen? ⟨g, i, none⟩ = false ∧ ∀ y, zU (w.setCell ⟨g, i, none⟩ (.int .i64 y)) base A n c (l.set i y) := by
 obtain ⟨g, rfl, h1, h2⟩ := wG h (by omega)
 have hl := h.len
 refine ⟨g, l[i]'(by omega), rfl, h1, h2, List.getElem?_eq_getElem _, ?_, h.frozenAt i, fun y => ?_⟩
 ·rw [h.cellAt i (by omega), yK, List.getElem?_map, List.getElem?_eq_getElem (by omega)]; rfl
 ·have := (h.stored i (.int .i64 y)).1
  rwa [mj] at this
theorem zx {e : TypeId} {size : Nat} {v : Value} {xs : List Value} (h : w.ownsRow base e size v n xs) (hb : Below w.heap.size w w') : w'.ownsRow base e size v n xs := h.kept (zN hb none) (Classical.em _)
theorem zU.later (h : zU w base A n c l) (hb : Below w.heap.size w w') : zU w' base A n c l := zx h hb
theorem yE (w : World) (p : Addr) (u : Value) : w.grownBy (w.setCell p u) (some p.block) := ⟨rfl, rfl, rfl, by simp [World.setCell], fun i _ hi => Below.heap_setCell w _ _ i (fun e => hi (by rw [e]))⟩
end
theorem vO (n : Nat) (hn : n ≤ 1000000) (w : World) : (Instr.makeSlice 22 (.int .i64 (n : Int)) (.int .i64 (n : Int))).run Tryz.prog w = .ok (.slice (some ⟨w.heap.size, 0, none⟩) n n) (w.alloc (.cells (zK (List.replicate n 0)).toArray 3)) := by
 rw [run_make_row' 22 3 (.int .i64 0) 8 Tryz.underlying22 (by kernel_rfl) rfl .i64 .i64 n (by omega) (by omega) w]
 congr 3
 apply Array.ext'
 rw [toList_madeCells_one, sD]
theorem qh {w : World} {base n : Nat} {e : TypeId} {xs : List Value} (hb : base ≤ w.heap.size) (hn : n ≤ 9223372036854775807) (hl : xs.length = n) : (w.alloc (.cells xs.toArray e)).ownsRow base e 1 (.slice (some ⟨w.heap.size, 0, none⟩) n n) n xs :=
 ⟨by omega, .inr ⟨w.heap.size, n, xs.toArray, rfl, hb, heap_alloc_new w _, Nat.le_refl _, by simpa [maxLen] using hn, by simp [hl], by simp [← hl]⟩⟩
theorem tF {w : World} {base n : Nat} (hb : base ≤ w.heap.size) (hn : n ≤ 1000000) : zU (w.alloc (.cells (zK (List.replicate n 0)).toArray 3)) base (some ⟨w.heap.size, 0, none⟩) n n (List.replicate n 0) := qh hb (by omega) (by rw [vL, List.length_replicate])
theorem vK (l : List Int) : ∀ u ∈ zK l, u.oneCell' = true := by
 intro u hu
 rw [yK, List.mem_map] at hu
 obtain ⟨x, _, rfl⟩ := hu
 rfl
theorem xg {w w' : World} {row : Option Nat} (h : w.drew.grownBy w' row) : w.grownBy w' row := ⟨h.os, h.tape, h.output, h.size, h.block⟩
def ra (A : Option Addr) (c k : Nat) : Option Addr := if c = k then A else A.map (·.add k)
theorem uv (w : World) (A : Option Addr) (n c k : Nat) (hk : k ≤ n) : (Instr.sliceAt 22 (.slice A n c) (some (.int .i64 (k : Int))) none none).run Tryz.prog w = .ok (.slice (ra A c k) (n - k) (c - k)) w := by
 rw [run_sliceAt_slice _ _ _ _ _ _ (by kernel_rfl), run_slice_l _ _ _ _ _ (by kernel_rfl) _ _ (by omega) (by omega)]
 have : (sizeOf (Tryz.prog.elem 22)).run Tryz.prog w = .ok 1 w := by kernel_rfl
 rw [this]
 simp [sliced, ra, Result.andThen]
def Que (w : World) (base : Nat) (e : TypeId) (A : Option Addr) (n c : Nat) (xs : List Value) : Prop :=
 xs.length = n ∧ n ≤ c ∧ c ≤ 9223372036854775807 ∧ (∀ a, A = some a → base ≤ a.block ∧ a.block < w.heap.size) ∧
 (0 < c → ∃ g off cur, A = some ⟨g, off, none⟩ ∧ w.heap[g]? = some (.cells cur e (0, 0)) ∧ off + c ≤ cur.size ∧ ∀ j u, xs[j]? = some u → cur[off + j]? = some u)
section
variable {w w' : World} {base n c k : Nat} {A : Option Addr} {xs : List Value} {e : TypeId}
theorem Que.le (h : Que w base e A n c xs) : n ≤ c ∧ c ≤ 9223372036854775807 := ⟨h.2.1, h.2.2.1⟩
theorem Que.lt (h : Que w base e A n c xs) : ∀ g, (Value.slice A n c).ownBlock = some g → base ≤ g ∧ g < w.heap.size := by
 intro g hg
 cases A with
 | none => cases hg
 | some a => have := h.2.2.2.1 a rfl; simp [Value.ownBlock] at hg; subst hg; exact this
theorem Que.of_own (h : w.ownsRow base e 1 (.slice A n c) n xs) : Que w base e A n c xs := by
 have hl := h.lt
 have hx := h.1
 rcases h.2 with ⟨hv, hn⟩ | ⟨g, cap, cur, hv, hb, hh, hnc, hm, hs, ht⟩
 ·injection hv with h1 h2 h3
  subst h1 h3 hn
  exact ⟨by omega, Nat.le_refl _, by omega, (fun a e => by cases e), fun h => absurd h (by omega)⟩
 ·injection hv with h1 h2 h3
  subst h1 h3
  refine ⟨by omega, hnc, by simpa [maxLen] using hm, fun a e => ?_, fun _ => ⟨g, 0, cur, rfl, hh, by omega, fun j u hu => ?_⟩⟩
  ·injection e with e; subst e; exact hl g rfl
  ·rw [Nat.zero_add]
   have hj : j < n := by have := (List.getElem?_eq_some_iff.1 hu).1; omega
   rw [← ht, List.getElem?_take, if_pos (by omega)] at hu
   simpa using hu
theorem Que.kept (h : Que w base e A n c xs) {row : Option Nat} (hg : w.grownBy w' row) (hne : (Value.slice A n c).ownBlock = none ∨ (Value.slice A n c).ownBlock ≠ row) : Que w' base e A n c xs := by
 obtain ⟨h1, h2, h3, h4, h5⟩ := h
 refine ⟨h1, h2, h3, fun a ha => ⟨(h4 a ha).1, Nat.lt_of_lt_of_le (h4 a ha).2 hg.size⟩, fun hc => ?_⟩
 obtain ⟨g, off, cur, rfl, hh, ho, hx⟩ := h5 hc
 refine ⟨g, off, cur, rfl, (hg.block g (h4 _ rfl).2 (fun e => ?_)).trans hh, ho, hx⟩
 rcases hne with h | h
 ·simp [Value.ownBlock] at h
 ·exact h e
theorem Que.later (h : Que w base e A n c xs) (hb : Below w.heap.size w w') : Que w' base e A n c xs := h.kept (zN hb none) (Classical.em _)
theorem Que.alloc (h : Que w base e A n c xs) (o : Obj) : Que (w.alloc o) base e A n c xs := h.later ((Below.refl _ _).alloc lR _)
theorem Que.at (h : Que w base e A n c xs) (hk : k < n) : ∃ g off u, A = some ⟨g, off, none⟩ ∧ xs[k]? = some u ∧ w.cell? ⟨g, off + k, none⟩ = some u := by
 obtain ⟨h1, h2, h3, h4, h5⟩ := h
 obtain ⟨g, off, cur, rfl, hh, ho, hx⟩ := h5 (by omega)
 have e1 : xs[k]? = some (xs[k]'(by omega)) := List.getElem?_eq_getElem (by omega)
 exact ⟨g, off, _, rfl, e1, (cell_of_row w g _ cur e (0, 0) hh).trans (hx k _ e1)⟩
theorem oI (A : Option Addr) (n c n' c' k : Nat) : (Value.slice (ra A c k) n' c').ownBlock = (Value.slice A n c).ownBlock := by
 unfold ra
 cases A with
 | none => split <;> rfl
 | some a =>
  split
  ·rfl
  ·simp [Value.ownBlock, Addr.add]; split <;> rfl
theorem Que.cut (h : Que w base e A n c xs) (hk : k ≤ n) : Que w base e (ra A c k) (n - k) (c - k) (xs.drop k) := by
 obtain ⟨h1, h2, h3, h4, h5⟩ := h
 refine ⟨by simp; omega, by omega, by omega, fun a ha => ?_, fun hc => ?_⟩
 ·cases A with
  | none => unfold ra at ha; split at ha <;> cases ha
  | some b =>
   have := h4 b rfl
   have hb : a.block = b.block := by
    have := oI (some b) n c n c k
    rw [ha] at this
    simpa [Value.ownBlock] using this
   rw [hb]; exact this
 ·obtain ⟨g, off, cur, rfl, hh, ho, hx⟩ := h5 (by omega)
  refine ⟨g, off + k, cur, by unfold ra; rw [if_neg (by omega), Option.map_some, xd], hh, by omega, fun j u hu => ?_⟩
  rw [List.getElem?_drop] at hu
  have := hx (k + j) u hu
  rwa [show off + k + j = off + (k + j) by omega]
end
end
section
open Go.RowKit
def Lk.cells (k : Lk) : List Value := [.int .i64 k.dev, .int .i64 k.pos, .int .i64 k.key]
theorem yc : xV Tryz.prog 27 87 3 24 := xV.mk' (z := .agg #[.int .i64 0, .int .i64 0, .int .i64 0]) Tryz.underlying27 (by kernel_rfl) rfl (by decide)
def zt (w : World) (base : Nat) (A : Option Addr) (n c : Nat) (ls : List Lk) : Prop := w.ownsRow base 87 3 (.slice A n c) n (ls.flatMap Lk.cells)
section
variable {w w' : World} {base n c B : Nat} {A : Option Addr} {ls : List Lk}
theorem zt.sl (h : zt w base A n c ls) : Sl w w.heap.size 3 A n c (ls.flatMap Lk.cells) := Sl.of_own h
theorem zt.len (h : zt w base A n c ls) : ls.length = n := (Sl.of_own h).len (fun _ => rfl) (by decide)
theorem zt.later (h : zt w base A n c ls) (hb : Below w.heap.size w w') : zt w' base A n c ls := zx h hb
theorem yt (l : List Lk) : ∀ u ∈ l.flatMap Lk.cells, u.oneCell' = true := by
 intro u hu
 rw [List.mem_flatMap] at hu
 obtain ⟨x, _, hx⟩ := hu
 simp only [Lk.cells, List.mem_cons, List.not_mem_nil, or_false] at hx
 rcases hx with rfl | rfl | rfl <;> rfl
theorem Sl.lock {i : Nat} (h : Sl w B 3 A n c (ls.flatMap Lk.cells)) (hi : i < n) : ∃ b off d p q, A = some ⟨b, off, none⟩ ∧ b < B ∧ ls[i]? = some ⟨d, p, q⟩ ∧ w.cell? ⟨b, off + i * 3, none⟩ = some (.int .i64 d) ∧ w.cell? ⟨b, off + i * 3 + 1, none⟩ = some (.int .i64 p) ∧ w.cell? ⟨b, off + i * 3 + 2, none⟩ = some (.int .i64 q) := by
 obtain ⟨b, off, ⟨d, p, q⟩, e, hb, hx, hc⟩ := h.at (fun _ => rfl) (by decide) hi
 exact ⟨b, off, d, p, q, e, hb, hx, hc 0 _ rfl, hc 1 _ rfl, hc 2 _ rfl⟩
end
end
section
open Go.RowKit
structure Sp where
 kind : Int
 dev : Int
 node : Int
 pos : Int
 key : Int
deriving DecidableEq
def Sp.cells (s : Sp) : List Value := [.int .i64 s.kind, .int .i64 s.dev, .int .i64 s.node, .int .i64 s.pos, .int .i64 s.key]
theorem Sp.len (s : Sp) : s.cells.length = 5 := rfl
def Sp.posB (s : Sp) : Bool := s.kind == 3 || s.kind == 6
def Sp.keyB (s : Sp) : Bool := s.kind == 3 || s.kind == 4
def zc (nn nd : Nat) (s : Sp) : Int :=
 if s.kind < 1 ∨ 6 < s.kind then 6
 else if s.kind ≠ 5 ∧ (s.dev < 0 ∨ (nd : Int) ≤ s.dev) then 8
 else if s.kind = 5 ∧ (s.node < 0 ∨ (nn : Int) ≤ s.node) then 7
 else if s.posB = true ∧ s.pos ≠ 1 ∧ s.pos ≠ 2 then 10
 else if s.keyB = true ∧ (s.key < 0 ∨ 65536 < s.key) then 5
 else if s.kind = 5 ∧ s.dev ≠ 0 ∨ s.kind ≠ 5 ∧ s.node ≠ 0 ∨ s.posB = false ∧ s.pos ≠ 0 ∨ s.keyB = false ∧ s.key ≠ 0 then 14
 else 0
def zz (nn nd : Nat) : List Sp → Int
 | [] => 0
 | s :: r => if zc nn nd s ≠ 0 then zc nn nd s else zz nn nd r
def yN (ns : List Nd) (ds : List Dv) (nm : ByteArray) (xs : List Sp) : Int :=
 if zR ns ds ≠ 0 then zR ns ds else if yO (toL nm) = false then 3 else if 64 < xs.length then 1 else zz ns.length ds.length xs
end
section
open Go.RowKit
def xl (x : Dv) (v : Int) : Int := if zX x.kind = false then -1 else if x.a = v then x.b else if x.b = v then x.a else -1
theorem nV (nm : ByteArray) (kind a b comp v : Int) (w : World) : Calls Tryz.prog 141 #[.agg #[.string nm, .int .i64 kind, .int .i64 a, .int .i64 b, .int .i64 comp], .int .i64 v] w fun e w' => e = .returned (.int .i64 (xl ⟨nm, kind, a, b, comp⟩ v)) ∧ Below w.heap.size w w' := by
 have HE : Hid (xl ⟨nm, kind, a, b, comp⟩ v = if zX kind = false then -1 else if a = v then b else if b = v then a else -1) := rfl
 have HJ2 := iD (xu kind)
 rcases hj : zX kind with _ | _
 ·rw [hj] at HJ2
  have HJ := iD hj; clear hj
  go_enter Tryz.func141, Tryz.ntmps141
  go_wp2_with fail
  refine (HJ2.out _).mono ?_
  rintro e w1 ⟨rfl, rfl⟩
  go_wp2_with fail
  go_ret
  exact ⟨zE (by rw [HE.out, if_pos HJ.out]), (Below.refl _ _).alloc lR _⟩
 ·rw [hj] at HJ2
  have HJ := iD hj; clear hj
  by_cases h1 : a = v
  ·subst h1
   have q : (a == a) = true := by simp
   go_enter Tryz.func141, Tryz.ntmps141
   go_wp2_with fail
   refine (HJ2.out _).mono ?_
   rintro e w1 ⟨rfl, rfl⟩
   go_wp2_with fail
   go_ret
   exact ⟨zE (by rw [HE.out, if_neg (by rw [HJ.out]; simp)]; simp), (Below.refl _ _).alloc lR _⟩
  ·have q : (a == v) = false := by simpa using h1
   by_cases h2 : b = v
   ·subst h2
    have q2 : (b == b) = true := by simp
    go_enter Tryz.func141, Tryz.ntmps141
    go_wp2_with fail
    refine (HJ2.out _).mono ?_
    rintro e w1 ⟨rfl, rfl⟩
    go_wp2_with fail
    go_ret
    exact ⟨zE (by rw [HE.out, if_neg (by rw [HJ.out]; simp), if_neg h1]; simp), (Below.refl _ _).alloc lR _⟩
   ·have q2 : (b == v) = false := by simpa using h2
    go_enter Tryz.func141, Tryz.ntmps141
    go_wp2_with fail
    refine (HJ2.out _).mono ?_
    rintro e w1 ⟨rfl, rfl⟩
    go_wp2_with fail
    go_ret
    exact ⟨zE (by rw [HE.out, if_neg (by rw [HJ.out]; simp), if_neg h1, if_neg h2]), (Below.refl _ _).alloc lR _⟩
def wM (w : World) (l : List Int) (e : Ending) (w' : World) : Prop := ∃ (A : Option Addr) (c : Nat), e = .returned (.slice A l.length c) ∧ Hid (zU w' w.heap.size A l.length c l) ∧ Hid (Below w.heap.size w w')
theorem ro (A : Option Addr) (n c : Nat) (w : World) : (binOp BinOp.eql 22 (.slice A n c) (.slice none 0 0)).run Tryz.prog w = .ok (.bool A.isNone) w := by
 cases A <;> kernel_rfl
theorem xM (A : Option Addr) (n c B : Nat) (l : List Int) (w : World) (hs : Sl w B 1 A n c (zK l)) (hB : B ≤ w.heap.size) (hn : n ≤ 1000000) : Calls Tryz.prog 40 #[.slice A n c] w (wM w l) := by
 have hl := hs.len (fun _ => rfl) (by decide)
 have HL := iD hl; clear hl
 cases A with
 | none =>
  have h0 : n = 0 := by have := hs.2.2.2.1 rfl; have := hs.le; omega
  subst h0
  have hl0 : l = [] := List.eq_nil_of_length_eq_zero HL.out
  subst hl0
  clear hs HL
  have hnil := ro none 0 c w
  simp only [Option.isNone_none] at hnil
  go_enter Tryz.func40, Tryz.ntmps40
  go_wp2_with fail
  go_ret
  exact ⟨none, 0, rfl, World.ownsRow_nil _ _ _ _, Below.refl _ _⟩
 | some a =>
  have HS := iD hs
  have hH := hs.le
  clear hs
  have hnil := ro (some a) n c w
  simp only [Option.isNone_some] at hnil
  go_enter Tryz.func40, Tryz.ntmps40
  have h1 : ∀ u ∈ zK l, u.oneCell' = true := vK l
  have HS1 := iD (HS.out.alloc hB (.cells #[] 3))
  go_wp2_with (at_builtin; go_must (refine zT rfl (.tmp 5) (.tmp 6) rfl wA (base := w.heap.size) (n := 0) (xs := []) (by rfl) (qh (xs := []) lR (by decide) rfl) (by rfl) HS1.out h1 (by omega) (by omega) (by simp) ?_; intro A' cap' w2 hown2 hgr2 hat2; simp only [Nat.zero_add, List.nil_append] at hown2 hgr2; have HO := iD hown2; have HG := iD hgr2; clear hown2 hgr2 hat2))
  go_ret
  obtain rfl : l.length = n := HL.out
  exact ⟨A', cap', rfl, HO.out, ((Below.refl _ _).alloc lR _).trans (yQ HG.out lR (by simp))⟩
end
end Go.Proofs.YtddddlhgaeameaaGreatDoor
