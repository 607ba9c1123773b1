import Derived.Lib.SliceRun
import Derived.Test.YtepicjpdhpojnaaGreatDoorX21
set_option maxRecDepth 100000
set_option maxHeartbeats 8000000
namespace Go.Proofs.YtepicjpdhpojnaaGreatDoor
section
open Go.RowKit
def ClG (g : Nat) (lb : Array Value) (p : Int → Bool) (row : Option Nat) (w : World) : Prop := ∀ (W : World) (x : Int), w.grownBy W row → Calls Tryz.prog g (#[.int .i64 x] ++ lb) W fun e w' => e = .returned (.bool (p x)) ∧ Hid (Below W.heap.size W w')
def ia (p : Int → Bool) (l : List Int) (k : Int) : Prop := (k = -1 ∧ ∀ x ∈ l, p x = false) ∨ ∃ i : Nat, k = i ∧ i < l.length ∧ (∀ x ∈ l.take i, p x = false) ∧ ∀ x, l[i]? = some x → p x = true
theorem zQ.cut {w : World} {base n c i : Nat} {A : Option Addr} {l : List Int} (h : zQ w base A n c l) (hi : i ≤ n) : zQ w base A i c (l.take i) := by
 have hl := h.len
 rcases h.2 with ⟨hv, h0⟩ | ⟨gb, cap, cur, hv, hb, hh, hnc, hm, hs, ht⟩
 ·injection hv with h1 h2 h3
  subst h1 h3 h0
  obtain rfl : i = 0 := by omega
  rw [List.take_zero]
  exact World.ownsRow_nil _ _ _ _
 ·injection hv with h1 h2 h3
  subst h1 h3
  refine ⟨by rw [xF, List.length_take]; omega, .inr ⟨gb, c, cur, rfl, hb, hh, by omega, hm, hs, ?_⟩⟩
  rw [Nat.mul_one] at ht ⊢
  have h4 := congrArg (List.take i) ht
  rw [List.take_take, Nat.min_eq_left hi] at h4
  rw [h4, yi, yi, List.map_take]
theorem zQ.over {base n c g : Nat} : ∀ (xs l : List Int) (w : World) (k : Nat), zQ w base (some ⟨g, 0, none⟩) n c l → k + xs.length ≤ n → ∃ l', zQ (w.setCells g k (zK xs)) base (some ⟨g, 0, none⟩) n c l' ∧ l'.take k = l.take k ∧ w.grownBy (w.setCells g k (zK xs)) (some g)
 | [], l, w, k, h, _ => ⟨l, h, rfl, y9 _ _⟩
 | x :: xs, l, w, k, h, hk => by
  rw [List.length_cons] at hk
  obtain ⟨g2, y, e, _, _, hy, _, _, hst⟩ := h.at (i := k) (by omega)
  injection e with e
  injection e with e
  subst e
  obtain ⟨l', h1, h2, h3⟩ := zQ.over xs (l.set k x) (w.setCell ⟨g, k, none⟩ (.int .i64 x)) (k + 1) (hst x) (by omega)
  refine ⟨l', h1, ?_, zO (zY w ⟨g, k, none⟩ _) h3⟩
  have h4 := congrArg (List.take k) h2
  rw [List.take_take, List.take_take, Nat.min_eq_left (by omega)] at h4
  rw [h4]
  apply List.ext_getElem?
  intro j
  rw [List.getElem?_take, List.getElem?_take]
  split
  ·rw [List.getElem?_set_ne (by omega)]
  ·rfl
def IgR (w : World) (p : Int → Bool) (l : List Int) (n gk : Nat) (s8 : Value) (wr : World) : Prop := ∃ i : Nat, s8 = .int .i64 i ∧ i ≤ n ∧ n - i ≤ gk ∧ Hid (Below w.heap.size w wr) ∧ Hid (∀ x ∈ l.take i, p x = false)
theorem tM {l : List Int} {i : Nat} {x : Int} (h : l[i]? = some x) : l.take (i + 1) = l.take i ++ [x] := by
 rw [List.take_add_one, h]; rfl
theorem kS (g : Nat) (lb : Array Value) (p : Int → Bool) (row : Option Nat) (eg : ∀ args w, (callFunc g args).run Tryz.prog w = .ok (.enter g args) w) (A : Option Addr) (n c : Nat) (l : List Int) (w : World) (h : Sl w w.heap.size 1 A n c (zK l)) (hc : ClG g lb p row w) :
 Calls Tryz.prog 90 #[.slice A n c, .func (.func g) #[] lb] w fun e w' => ∃ k, e = .returned (.int .i64 k) ∧ Hid (ia p l k) ∧ Hid (Below w.heap.size w w') := by
 have HL := iD (h.len (fun _ => rfl) (by decide))
 have hle := h.le
 have HH := iD h; have HC := iD hc
 have HB0 : Hid (Below w.heap.size w w) := Below.refl _ _
 clear h hc
 go_enter Tryz.func90, Tryz.ntmps90
 go_wp2_with fail
 go_loopg [5, 8] n (fun gk _ s8 wr => IgR w p l n gk s8 wr)
 case atStart => exact ⟨0, rfl, Nat.zero_le _, by omega, HB0, by intro x hx; simp at hx⟩
 case round =>
  clear HB0
  obtain ⟨i, rfl, hi, hgk, HB, HP⟩ := hrel
  by_cases hlt : i < n
  ·have hltz : (i : Int) < (n : Int) := by omega
   obtain ⟨b, off, x, rfl, hb, hx, hcl⟩ := (HH.out.below HB.out lR).at1 hlt
   have HX := iD hx
   clear hx
   have hcall := HC.out wr x (zN HB.out _)
   rcases hq : p x with _ | _
   ·rw [hq] at hcall
    go_wp2_with (go_at_fn g; refine hcall.mono ?_; rintro e w3 ⟨rfl, hb3⟩)
    have HB3 := iD (HB.out.trans (hb3.out.mono HB.out.size))
    go_roundg (n - (i + 1))
    case measure => omega
    case rel =>
     refine ⟨i + 1, by go_num, by omega, Nat.le_refl _, HB3, ?_⟩
     unfold Hid
     rw [tM HX.out]
     intro y hy
     rcases List.mem_append.1 hy with hy | hy
     ·exact HP.out y hy
     ·rw [List.mem_singleton.1 hy]; exact hq
   ·rw [hq] at hcall
    go_wp2_with (go_at_fn g; refine hcall.mono ?_; rintro e w3 ⟨rfl, hb3⟩)
    have HB3 := iD (HB.out.trans (hb3.out.mono HB.out.size))
    go_ret
    exact ⟨i, rfl, .inr ⟨i, rfl, by rw [HL.out]; exact hlt, HP.out, fun y hy => by rw [HX.out] at hy; injection hy with hy; rw [← hy]; exact hq⟩, HB3⟩
  ·have hltz : ¬ (i : Int) < (n : Int) := by omega
   obtain rfl : i = n := by omega
   go_wp2_with fail
   go_ret
   exact ⟨-1, rfl, .inl ⟨rfl, fun y hy => HP.out y (by rw [List.take_of_length_le (by rw [HL.out]; exact Nat.le_refl _)]; exact hy)⟩, HB⟩
def DlR (w : World) (p : Int → Bool) (l : List Int) (base gb c n gk : Nat) (s5 s6 : Value) (wr : World) : Prop := ∃ (i j : Nat) (cur : List Int), s5 = .int .i64 i ∧ s6 = .int .i64 j ∧ i < j ∧ j ≤ n ∧ n - j ≤ gk ∧ Hid (zQ wr base (some ⟨gb, 0, none⟩) n c cur) ∧ Hid (cur.take i = (l.take j).filter fun x => !p x) ∧ Hid (∀ t, j ≤ t → cur[t]? = l[t]?) ∧ Hid (w.grownBy wr (some gb))
theorem sS {l : List Int} {j : Nat} {x : Int} (p : Int → Bool) (h : l[j]? = some x) : (l.take (j + 1)).filter (fun x => !p x) = (l.take j).filter (fun x => !p x) ++ if p x = true then [] else [x] := by
 rw [tM h, List.filter_append]
 congr 1
 rcases hp : p x with _ | _ <;> simp [hp]
theorem ko (g : Nat) (lb : Array Value) (p : Int → Bool) (eg : ∀ args w, (callFunc g args).run Tryz.prog w = .ok (.enter g args) w) (A : Option Addr) (n c base : Nat) (l : List Int) (w : World) (h : zQ w base A n c l) (hn : n ≤ 1000000)
 (hc : ClG g lb p (Value.slice A n c).ownBlock w) :
 Calls Tryz.prog 135 #[.slice A n c, .func (.func g) #[] lb] w fun e w' => ∃ m, e = .returned (.slice A m c) ∧ Hid (zQ w' base A m c (l.filter fun x => !p x)) ∧ Hid (w.grownBy w' (Value.slice A n c).ownBlock) := by
 have HL := iD h.len
 have HO := iD h
 have HC := iD hc
 have hle := h.sl.le
 have HIX := iD (kS g lb p _ eg A n c l w h.sl hc)
 clear h hc
 go_enter Tryz.func135, Tryz.ntmps135
 go_wp2_with fail
 refine HIX.out.mono ?_
 rintro e w1 ⟨k, rfl, hk, hb1⟩
 clear HIX
 rcases hk.out with ⟨rfl, hall⟩ | ⟨i0, rfl, hi0, hpre, hhit⟩
 ·have HA := iD hall
  clear hall hk
  go_wp2_with fail
  go_ret
  refine ⟨n, rfl, ?_, zN hb1.out _⟩
  rw [List.filter_eq_self.2 (fun x hx => by rw [HA.out x hx]; rfl)]
  exact HO.out.later hb1.out
 have hin : i0 < n := by have := HL.out; omega
 obtain ⟨gb, x0, rfl, _, _, hx0, _, _, _⟩ := HO.out.at hin
 have HX0 := iD hx0
 have HH := iD (hhit x0 hx0)
 have HPR := iD hpre
 clear hk hx0 hhit hpre hi0
 have q1 : ((i0 : Int) == -1) = false := by simp
 go_wp2_with fail
 clear q1
 go_loopg [5, 6, 7] n (fun gk s5 s6 _ wr => DlR w p l base gb c n gk s5 s6 wr)
 case atStart =>
  refine ⟨i0, i0 + 1, l, rfl, by go_num, by omega, by omega, by omega, HO.out.later hb1.out, ?_, fun t _ => rfl, zN hb1.out _⟩
  unfold Hid
  rw [sS p HX0.out, if_pos HH.out, List.append_nil, List.filter_eq_self.2 (fun x hx => by rw [HPR.out x hx]; rfl)]
 case round =>
  clear hb1 HX0 HH HPR HO
  obtain ⟨i, j, cur, rfl, rfl, hij, hj, hgk, HI, HT, HR, HG⟩ := hrel
  have HCL := iD HI.out.len
  by_cases hlt : j < n
  ·have hltz : (j : Int) < (n : Int) := by omega
   obtain ⟨gb2, x, e, hbg, _, hx, hcl, _, _⟩ := HI.out.at hlt
   injection e with e
   injection e with e
   subst e
   have HX : Hid (l[j]? = some x) := (HR.out j lR).symm.trans hx
   clear hx
   have hcall := HC.out wr x HG.out
   rcases hq : p x with _ | _
   ·rw [hq] at hcall
    go_wp2_with (go_at_fn g; refine hcall.mono ?_; rintro e w3 ⟨rfl, hb3⟩; have HI3 := iD (HI.out.later hb3.out); have HG3 := iD (zO HG.out (zN hb3.out (some gb))); obtain ⟨gb3, y, e3, _, _, _, hcy, hfy, hst⟩ := HI3.out.at (i := i) (by omega); have HST := iD (hst x); clear hst hb3 HI HG; cases e3)
    go_roundg (n - (j + 1))
    case measure => omega
    case rel =>
     refine ⟨i + 1, j + 1, cur.set i x, by go_num, by go_num, by omega, by omega, Nat.le_refl _, HST, ?_, ?_, ?_⟩
     rotate_left 2
     ·exact zO HG3.out (zY w3 ⟨gb, i, none⟩ _)
     ·unfold Hid
      rw [sS p HX.out, hq, ← HT.out]
      have h1 : (cur.set i x)[i]? = some x := by rw [List.getElem?_set_self (by rw [HCL.out]; omega)]
      rw [tM h1]
      have h2 : (cur.set i x).take i = cur.take i := by
       apply List.ext_getElem?
       intro t
       rw [List.getElem?_take, List.getElem?_take]
       split
       ·rw [List.getElem?_set_ne (by omega)]
       ·rfl
      rw [h2]
      rfl
     ·unfold Hid
      intro t ht
      rw [List.getElem?_set_ne (by omega)]
      exact HR.out t (by omega)
   ·rw [hq] at hcall
    go_wp2_with (go_at_fn g; refine hcall.mono ?_; rintro e w3 ⟨rfl, hb3⟩)
    have HI3 := iD (HI.out.later hb3.out)
    have HG3 := iD (zO HG.out (zN hb3.out (some gb)))
    go_roundg (n - (j + 1))
    case measure => omega
    case rel =>
     refine ⟨i, j + 1, cur, rfl, by go_num, by omega, by omega, Nat.le_refl _, HI3, ?_, fun t ht => HR.out t (by omega), HG3⟩
     unfold Hid
     rw [sS p HX.out, if_pos hq, List.append_nil]
     exact HT.out
  ·obtain rfl : j = n := by omega
   have hltz : ¬ (j : Int) < (j : Int) := by omega
   have hcl : ∀ ty, (Builtin.clear_ #[22] ty #[.slice (some ⟨gb, i, none⟩) (j - i) (c - i)]).run Tryz.prog wr = .ok (.tuple #[]) (wr.setCells gb i (List.replicate (j - i) (.int .i64 0))) :=
    fun ty => Lib.run_clear_slice wr _ 3 ty _ Tryz.underlying22 Tryz.zeroValue3 (by rfl) (by rfl) gb i _ _ (by omega) (fun t ht => by
     obtain ⟨g3, y, e, _, _, _, hc, _, _⟩ := HI.out.at (i := i + t) (by omega)
     injection e with e
     injection e with e
     subst e
     rw [hc]; rfl) (fun t ht => by
     obtain ⟨g3, y, e, _, _, _, _, hf, _⟩ := HI.out.at (i := i + t) (by omega)
     injection e with e
     injection e with e
     subst e
     exact hf)
   obtain ⟨l', hO', hT', hG'⟩ := zQ.over (List.replicate (j - i) 0) cur wr i HI.out (by rw [List.length_replicate]; omega)
   rw [← uL] at hO' hG'
   have HO' := iD hO'
   have HG' := iD hG'
   have HT' := iD hT'
   clear hO' hG' hT'
   go_wp2_with fail
   go_ret
   refine ⟨i, rfl, ?_, zO HG.out HG'.out⟩
   have := HO'.out.cut (i := i) (by omega)
   rw [HT'.out, HT.out, List.take_of_length_le (by rw [HL.out]; exact Nat.le_refl _)] at this
   exact this
end
section
open Go.RowKit
theorem mU (ds : List Dv) (ls : List Lk) (pos : Int) (p : Int → Bool) (u : Nat) : ∀ n, n ≤ u → ye u (-1) (yA ds ls pos p n) = true ∧ xr (-1) (yA ds ls pos p n) < n
 | 0, _ => ⟨rfl, by show (-1 : Int) < 0; omega⟩
 | n + 1, h => by
  obtain ⟨h1, h2⟩ := mU ds ls pos p u n (by omega)
  rw [tL]
  split
  ·refine ⟨?_, by rw [uE]; omega⟩
   rw [ve, h1]
   have : ((n : Nat) : Int) < (u : Nat) := by omega
   simp [h2, this]
  ·exact ⟨h1, by omega⟩
theorem jm {ds : List Dv} (ls : List Lk) : pr ds (yA ds ls 1 wO ds.length) := by
 refine ⟨(mU ds ls 1 wO ds.length _ lR).1, fun g hg x hx => ?_⟩
 unfold yA at hg
 obtain ⟨i, hi, rfl⟩ := List.mem_map.1 hg
 have h := (List.mem_filter.1 hi).2
 unfold py at h
 rw [Int.toNat_natCast] at hx
 rw [Bool.and_eq_true, xz hx] at h
 exact h.2
theorem qT {ds : List Dv} {ls : List Lk} {pos : Int} {p : Int → Bool} {n : Nat} {d : Int} (h : d ∈ yA ds ls pos p n) : 0 ≤ d ∧ d < n := by
 unfold yA at h
 obtain ⟨i, hi, rfl⟩ := List.mem_map.1 h
 have := List.mem_range.1 (List.mem_filter.1 hi).1
 omega
def aAt (ds : List Dv) (d : Int) : Int := match ds[d.toNat]? with | some x => x.a | none => 0
def sX (ds : List Dv) (er : List Int) (v : Int) : Bool := er.any fun d => aAt ds d == v
theorem nI (nb vb : Nat) (_An Ad : Option Addr) (_nn _cn nd cd B : Nat) (ds : List Dv) (v d : Int) (W : World) (h1 : W.cell? ⟨nb, 1, none⟩ = some (.slice Ad nd cd)) (hv : W.cell? ⟨vb, 0, none⟩ = some (.int .i64 v)) (hd : Sl W B 5 Ad nd cd (ds.flatMap Dv.cells)) (hr : 0 ≤ d ∧ d < nd) :
 FnGives Tryz.prog 137 #[.pointer (some ⟨nb, 0, none⟩), .pointer (some ⟨vb, 0, none⟩)] #[.int .i64 d] (.bool (aAt ds d == v)) W := by
 obtain ⟨k, rfl⟩ := Int.eq_ofNat_of_zero_le hr.1
 have hk : k < nd := by omega
 have hdl := hd.le
 obtain ⟨b, off, x, rfl, hb, hx, hc⟩ := hd.at (fun _ => rfl) (by decide) hk
 have HA : Hid (aAt ds (k : Int) = x.a) := by unfold Hid aAt; rw [Int.toNat_natCast, hx]
 obtain ⟨nm, kd, xa, xb, co⟩ := x
 have c2 : W.cell? ⟨b, off + k * 5 + 2, none⟩ = some (.int .i64 xa) := hc 2 _ rfl
 show Calls Tryz.prog 137 #[.int .i64 (k : Int), .pointer (some ⟨nb, 0, none⟩), .pointer (some ⟨vb, 0, none⟩)] W _
 clear hc hx hd hr
 go_enter Tryz.func137, Tryz.ntmps137
 go_wp2_with fail
 go_quiet (fail)
 go_wp2_with fail
 go_ret
 exact ⟨by rw [HA.out]; rfl, _, rfl⟩
theorem kq (nb eb : Nat) (An Ad Ae : Option Addr) (nn cn nd cd ne ce B : Nat) (ds : List Dv) (er : List Int) (v : Int) (W : World) (h1 : W.cell? ⟨nb, 1, none⟩ = some (.slice Ad nd cd)) (he : W.cell? ⟨eb, 0, none⟩ = some (.slice Ae ne ce)) (hd : Sl W B 5 Ad nd cd (ds.flatMap Dv.cells)) (hs : Sl W B 1 Ae ne ce (zK er)) (hB : B ≤ W.heap.size) (hr : ∀ d ∈ er, 0 ≤ d ∧ d < nd) (hnb : nb < W.heap.size) :
 Calls Tryz.prog 136 (#[.int .i64 v] ++ #[.pointer (some ⟨eb, 0, none⟩), .pointer (some ⟨nb, 0, none⟩)]) W fun e w' => e = .returned (.bool (!sX ds er v)) ∧ Hid (Below W.heap.size W w') := by
 have HB : Hid (Below W.heap.size W (W.alloc (.cells #[.int .i64 v] 3))) := (Below.refl _ _).alloc lR _
 have HK := iD (Blk.new W 3 #[.int .i64 v])
 have HCF := iD (sV (fun d => 0 ≤ d ∧ d < nd) 137 #[.pointer (some ⟨nb, 0, none⟩), .pointer (some ⟨W.heap.size, 0, none⟩)] (fun d => aAt ds d == v) (enters_of Tryz.func137 (by kernel_rfl) rfl) Ae ne ce B er (W.alloc (.cells #[.int .i64 v] 3)) (hs.alloc hB _) hr
  (fun W2 x hx hb2 => nI nb W.heap.size An Ad nn cn nd cd B ds v x W2 (hb2.cell (p := ⟨nb, 1, none⟩) (by show nb < _; simp; omega) |>.trans (HB.out.cell (p := ⟨nb, 1, none⟩) hnb |>.trans h1)) (((HK.out.below hb2 HK.out.lt).cell 0).trans rfl) ((hd.alloc hB _).below hb2 (by simp; omega)) hx))
 clear h1 hd hs hr
 show Calls Tryz.prog 136 #[.int .i64 v, .pointer (some ⟨eb, 0, none⟩), .pointer (some ⟨nb, 0, none⟩)] W _
 have heb : eb < W.heap.size := World.block_lt_of_cell? W ⟨eb, 0, none⟩ he
 have he2 : (W.alloc (.cells #[.int .i64 v] 3)).cell? ⟨eb, 0, none⟩ = some (.slice Ae ne ce) := (HB.out.cell (p := ⟨eb, 0, none⟩) heb).trans he
 go_enter Tryz.func136, Tryz.ntmps136
 go_upto_region 1 with (fail)
 generalize hW : World.alloc W _ = W2 at *
 clear hW he
 go_wp2_with fail
 refine HCF.out.mono ?_
 rintro e w3 ⟨rfl, q, rfl⟩
 go_wp2_with fail
 go_ret
 exact ⟨rfl, below_drewN' HB.out q⟩
end
section
open Go.RowKit
def zv (ns : List Nd) (ds : List Dv) (ls : List Lk) (z : List Int) : Int := if zL ns ds ls ≠ 0 then zL ns ds ls else zd ns ds z
def jt (ds : List Dv) (ls : List Lk) : List Int := yA ds ls 2 (fun k => k == 4) ds.length
def kV (ds : List Dv) (ls : List Lk) : List Int := yA ds ls 1 wO ds.length
noncomputable def qM (ns : List Nd) (ds : List Dv) (ls : List Lk) (z : List Int) : List Int := (yC ns.length (Rgn ds (kV ds ls) z)).filter (sX ds (jt ds ls))
def sE (w : World) (er : Int) (l : List Int) (e : Ending) (w' : World) : Prop :=
 (er ≠ 0 ∧ e = .returned (.tuple #[.slice none 0 0, .int .i64 er]) ∨ er = 0 ∧ ∃ (A : Option Addr) (k c : Nat), e = .returned (.tuple #[.slice A k c, .int .i64 0]) ∧ Hid (zQ w' w.heap.size A k c l)) ∧ Hid (Below w.heap.size w w')
theorem pl {w w' : World} {B : Nat} {row : Option Nat} (h : w.grownBy w' row) (hB : B ≤ w.heap.size) (hr : ∀ g, row = some g → B ≤ g) : Below B w w' := ⟨h.os, h.tape, h.output, h.size, fun i hi => h.block i (by omega) (fun e => by have := hr i e.symm; omega)⟩
theorem nS (An Ad Al Az : Option Addr) (nn cn nd cd nl cl n c : Nat) (ns : List Nd) (ds : List Dv) (ls : List Lk) (z : List Int) (w : World) (hl : Laid w) (hn : Sl w w.heap.size 3 An nn cn (ns.flatMap Nd.cells)) (hd : Sl w w.heap.size 5 Ad nd cd (ds.flatMap Dv.cells)) (hs : Sl w w.heap.size 3 Al nl cl (ls.flatMap Lk.cells)) (hz : Sl w w.heap.size 1 Az n c (zK z))
 (hsn : ∀ x ∈ ns, x.name.size ≤ 9223372036854775807) (hsd : ∀ x ∈ ds, x.name.size ≤ 9223372036854775807) (hnz : n ≤ 10000) (hnd : nd ≤ 1000) :
 Calls Tryz.prog 117 #[.agg #[.slice An nn cn, .slice Ad nd cd], .slice Al nl cl, .slice Az n c] w (sE w (zv ns ds ls z) (qM ns ds ls z)) := by
 have HLD := iD (hd.len (fun _ => rfl) (by decide))
 have HLN := iD (hn.len (fun _ => rfl) (by decide))
 have HB : Hid (Below w.heap.size w (w.alloc (.cells #[.slice An nn cn, .slice Ad nd cd] 30))) := (Below.refl _ _).alloc lR _
 have HK := iD (Blk.new w 30 #[.slice An nn cn, .slice Ad nd cd])
 have HER := iD (mI An Ad Al nn cn nd cd nl cl w.heap.size w.heap.size w.heap.size ns ds ls (w.alloc (.cells #[.slice An nn cn, .slice Ad nd cd] 30)) (hl.alloc _) (hn.alloc lR _) (hd.alloc lR _) (hs.alloc lR _) (by simp) (by simp) (by simp) hnd hsn hsd)
 have HLa := iD hl; have HN := iD hn; have HD := iD hd; have HS := iD hs; have HZ := iD hz; have HSN := iD hsn; have HSD := iD hsd
 clear hl hn hd hs hz hsn hsd
 go_enter Tryz.func117, Tryz.ntmps117
 go_wp2_with fail
 generalize World.alloc w _ = W at *
 refine HER.out.mono ?_
 rintro e w1 ⟨hcase, hb1⟩
 have HB1 := iD (HB.out.trans (hb1.out.mono HB.out.size))
 have HK1 := iD (HK.out.below hb1.out HK.out.lt)
 clear HB HK HER
 rcases hcase with ⟨he, rfl⟩ | ⟨he, Ae, ce, rfl, hoe⟩
 ·have HE : Hid (zv ns ds ls z = zL ns ds ls) := by unfold Hid zv; rw [if_pos he]
  have q : (zL ns ds ls != 0) = true := by simpa using he
  have HNZ := iD he
  clear he hb1
  have HB2 : Hid (Below w.heap.size w (w1.alloc (.cells #[.slice none 0 0] 22))) := HB1.out.alloc HB1.out.size _
  go_wp2_with fail
  go_ret2
  exact ⟨.inl ⟨by rw [HE.out]; exact HNZ.out, by rw [HE.out]; rfl⟩, HB2.out⟩
 have HZ0 := iD he
 have HE2 : Hid (zv ns ds ls z = zd ns ds z) := by unfold Hid zv; rw [if_neg (by omega)]
 clear he hb1
 obtain ⟨er, hera⟩ : ∃ er, er = yA ds ls 2 (fun k => k == 4) nd := ⟨_, rfl⟩
 rw [← hera] at hoe ⊢
 have HERA := iD hera
 have HERR : Hid (∀ d ∈ er, 0 ≤ d ∧ d < nd) := fun d hd => qT (by rw [hera] at hd; exact hd)
 obtain ⟨ne, hnera⟩ : ∃ ne, ne = er.length := ⟨_, rfl⟩
 rw [← hnera] at hoe ⊢
 clear hera hnera
 have HKE := iD (Blk.new w1 22 #[.slice Ae ne ce])
 have HES : Hid (Sl (w1.alloc (.cells #[.slice Ae ne ce] 22)) w1.heap.size 1 Ae ne ce (zK er)) := hoe.out.sl.alloc lR _
 have HB2 : Hid (Below w.heap.size w (w1.alloc (.cells #[.slice Ae ne ce] 22))) := HB1.out.alloc HB1.out.size _
 have HK2 := iD (HK1.out.alloc (.cells #[.slice Ae ne ce] 22))
 have hz1 := HB1.out.size
 have hz2 : w1.heap.size < (w1.alloc (.cells #[.slice Ae ne ce] 22)).heap.size := by simp
 have hzb : w.heap.size < w1.heap.size := HK1.out.lt
 have k0 : (w1.alloc (.cells #[.slice Ae ne ce] 22)).cell? ⟨w.heap.size, 0, none⟩ = some (.slice An nn cn) := HK2.out.cell 0
 have k1 : (w1.alloc (.cells #[.slice Ae ne ce] 22)).cell? ⟨w.heap.size, 1, none⟩ = some (.slice Ad nd cd) := HK2.out.cell 1
 clear HB1 HK1 hoe
 go_upto_region 4 with (fail)
 generalize World.alloc w1 _ = W2 at *
 go_wp2_with fail
 clear k0 k1
 refine (kY An Ad Al nn cn nd cd nl cl w.heap.size w.heap.size w.heap.size ns ds ls W2 (HLa.out.below HB2.out lR) (HN.out.below HB2.out lR) (HD.out.below HB2.out lR) (HS.out.below HB2.out lR) (by omega) (by omega) (by omega) hnd HSN.out HSD.out).mono ?_
 rintro e w3 ⟨⟨he3, _⟩ | ⟨_, Ag, cg, rfl, hog⟩, hb3⟩
 ·exact absurd HZ0.out he3
 have hz3 := hb3.out.size
 have HB3 := iD (HB2.out.trans (hb3.out.mono HB2.out.size))
 have HK3 := iD (HK2.out.below hb3.out HK2.out.lt)
 have HKE3 := iD (HKE.out.below hb3.out HKE.out.lt)
 have HES3 := iD (HES.out.below hb3.out (by omega))
 obtain ⟨gs, hgs⟩ : ∃ gs, gs = yA ds ls 1 wO nd := ⟨_, rfl⟩
 rw [← hgs] at hog ⊢
 have HGS : Hid (gs = kV ds ls) := by unfold Hid kV; rw [hgs, HLD.out]
 have HGO : Hid (pr ds gs) := by rw [HGS.out]; exact jm ls
 obtain ⟨ng, hng⟩ : ∃ ng, ng = gs.length := ⟨_, rfl⟩
 rw [← hng] at hog ⊢
 clear hgs hng hb3 HB2 HK2 HKE HES
 have k0 : w3.cell? ⟨w.heap.size, 0, none⟩ = some (.slice An nn cn) := HK3.out.cell 0
 have k1 : w3.cell? ⟨w.heap.size, 1, none⟩ = some (.slice Ad nd cd) := HK3.out.cell 1
 go_wp2_with fail
 clear k0 k1
 refine (mP An Ad Az Ag nn cn nd cd n c ng cg ns ds z gs w3 (HLa.out.below HB3.out lR) ((HN.out.below HB3.out lR).more HB3.out.size) ((HD.out.below HB3.out lR).more HB3.out.size) ((HZ.out.below HB3.out lR).more HB3.out.size) hog.out.sl HSN.out HSD.out HGO.out hnz).mono ?_
 rintro e w4 ⟨hcase, hb4⟩
 have HB4 := iD (HB3.out.trans (hb4.out.mono HB3.out.size))
 rcases hcase with ⟨he, rfl⟩ | ⟨he, AR, k, cr, rfl, hR⟩
 ·have q : (zd ns ds z != 0) = true := by simpa using he
  have HNZ := iD he
  clear he hb4 hog
  go_wp2_with fail
  go_ret2
  exact ⟨.inl ⟨by rw [HE2.out]; exact HNZ.out, by rw [HE2.out]; rfl⟩, HB4.out⟩
 have HEZ := iD he
 obtain ⟨hck, hzp, hzr⟩ := y5 he
 have HOK := iD (vu.of hck)
 have hnl := HOK.out.nl
 have HKL : Hid (k ≤ 1000000) := by have h1 := hR.out.len; have h2 := mB ns.length (Rgn ds gs z); unfold Hid; omega
 have HK4 := iD (HK3.out.below hb4.out HK3.out.lt)
 have HKE4 := iD (HKE3.out.below hb4.out HKE3.out.lt)
 have HES4 := iD (HES3.out.below hb4.out (by omega))
 have hz4 := hb4.out.size
 have HR := iD hR.out
 clear he hck hzp hzr hnl hb4 hR hog HB3 HK3 HKE3 HES3
 have hrow : ∀ g, (Value.slice AR k cr).ownBlock = some g → w3.heap.size ≤ g := fun g hg => (HR.out.lt g hg).1
 have HCL : Hid (ClG 136 #[.pointer (some ⟨w1.heap.size, 0, none⟩), .pointer (some ⟨w.heap.size, 0, none⟩)] (fun v => !sX ds er v) (Value.slice AR k cr).ownBlock w4) := by
  intro W' x hg
  have hs := hg.size
  refine kq w.heap.size w1.heap.size An Ad Ae nn cn nd cd ne ce w1.heap.size ds er x W' ?_ ?_ ?_ ?_ (by omega) HERR.out (by omega)
  ·exact hg.cell (HK4.out.cell 1) (fun e => by have := hrow _ e.symm; simp at this; omega)
  ·exact hg.cell (HKE4.out.cell 0) (fun e => by have := hrow _ e.symm; simp at this; omega)
  ·exact ((HD.out.below HB4.out lR).grown hg (by omega) (fun g e => by have := hrow g e; omega)).more (by omega)
  ·exact HES4.out.grown hg (by omega) (fun g e => by have := hrow g e; omega)
 have HDF := iD (ko 136 _ _ (enters_of Tryz.func136 (by kernel_rfl) rfl) AR k cr w3.heap.size _ w4 HR.out HKL.out HCL.out)
 clear hrow HCL
 go_wp2_with fail
 refine HDF.out.mono ?_
 rintro e w5 ⟨m, rfl, hO, hg⟩
 have HRL := iD (fun g hg => (HR.out.lt g hg).1)
 go_wp2_with fail
 go_ret2
 refine ⟨.inr ⟨by rw [HE2.out, HEZ.out], AR, m, cr, rfl, ?_⟩, HB4.out.trans (pl hg.out (by omega) (fun g e => by have := HRL.out g e; omega))⟩
 have : qM ns ds ls z = (yC ns.length (Rgn ds gs z)).filter fun x => !!sX ds er x := by
  unfold qM jt
  rw [← HGS.out, HLD.out, ← HERA.out]
  congr 1
  funext x
  rw [Bool.not_not]
 rw [this]
 exact hO.out.mono (by omega)
end
section
open Go.RowKit
noncomputable def oC (ns : List Nd) (ds : List Dv) (ls : List Lk) (z : List Int) : List Int := xd ds (qM ns ds ls z) z
noncomputable def vU (ns : List Nd) (ds : List Dv) (ls : List Lk) (z : List Int) : Bool := (oC ns ds ls z).isEmpty
def tA (w : World) (er : Int) (b : Bool) (e : Ending) (w' : World) : Prop := e = .returned (.tuple #[.bool (decide (er = 0) && b), .int .i64 er]) ∧ Hid (Below w.heap.size w w')
theorem nN (An Ad Al Az : Option Addr) (nn cn nd cd nl cl n c : Nat) (ns : List Nd) (ds : List Dv) (ls : List Lk) (z : List Int) (w : World) (hl : Laid w) (hn : Sl w w.heap.size 3 An nn cn (ns.flatMap Nd.cells)) (hd : Sl w w.heap.size 5 Ad nd cd (ds.flatMap Dv.cells)) (hs : Sl w w.heap.size 3 Al nl cl (ls.flatMap Lk.cells)) (hz : Sl w w.heap.size 1 Az n c (zK z))
 (hsn : ∀ x ∈ ns, x.name.size ≤ 9223372036854775807) (hsd : ∀ x ∈ ds, x.name.size ≤ 9223372036854775807) (hnz : n ≤ 10000) (hnd : nd ≤ 1000) :
 Calls Tryz.prog 93 #[.agg #[.slice An nn cn, .slice Ad nd cd], .slice Al nl cl, .slice Az n c] w (sE w (zv ns ds ls z) (oC ns ds ls z)) := by
 have HLN := iD (hn.len (fun _ => rfl) (by decide))
 have HB : Hid (Below w.heap.size w (w.alloc (.cells #[.slice An nn cn, .slice Ad nd cd] 30))) := (Below.refl _ _).alloc lR _
 have HK := iD (Blk.new w 30 #[.slice An nn cn, .slice Ad nd cd])
 have HC := iD (nS An Ad Al Az nn cn nd cd nl cl n c ns ds ls z (w.alloc (.cells #[.slice An nn cn, .slice Ad nd cd] 30)) (hl.alloc _) ((hn.alloc lR _).more (by simp)) ((hd.alloc lR _).more (by simp)) ((hs.alloc lR _).more (by simp)) ((hz.alloc lR _).more (by simp)) hsn hsd hnz hnd)
 have HD := iD hd; have HZ := iD hz
 have HLZ := iD (hz.len (fun _ => rfl) (by decide))
 clear hl hn hd hs hz hsn hsd
 go_enter Tryz.func93, Tryz.ntmps93
 go_wp2_with fail
 generalize World.alloc w _ = W at *
 refine HC.out.mono ?_
 rintro e w1 ⟨hcase, hb1⟩
 have HB1 := iD (HB.out.trans (hb1.out.mono HB.out.size))
 have HK1 := iD (HK.out.below hb1.out HK.out.lt)
 clear HB HK HC
 rcases hcase with ⟨he, rfl⟩ | ⟨he, Ae, ne, ce, rfl, hoe⟩
 ·have q : (zv ns ds ls z != 0) = true := by simpa using he
  have HNZ := iD he
  clear he hb1
  go_wp2_with fail
  go_ret2
  exact ⟨.inl ⟨HNZ.out, rfl⟩, HB1.out⟩
 have HEZ := iD he
 have HZE : Hid (zd ns ds z = 0) := by
  unfold Hid
  unfold zv at he
  split at he
  ·next h => exact absurd he h
  ·exact he
 obtain ⟨hck, hzp, hzr⟩ := y5 HZE.out
 have HOK := iD (vu.of hck)
 have hnl := HOK.out.nl
 have hnn : nn ≤ 10000 := by have := HLN.out; omega
 have HZI : Hid (∀ v ∈ z, 0 ≤ v ∧ v < nn) := fun v hv => by have := vP hzr v hv; rw [HLN.out] at this; omega
 have HEN : Hid (xG nn ds) := by have := HOK.out.e; rw [HLN.out] at this; exact this
 have HAO : Hid (AOk nn ds) := by have := HOK.out.a; rw [HLN.out] at this; exact this
 have HCV : Hid (∀ u ∈ qM ns ds ls z, 0 ≤ u ∧ u < nn) := fun u hu => by have := rm.1 (List.mem_filter.1 hu).1; rw [HLN.out] at this; exact ⟨this.1, this.2.1⟩
 clear he hck hzp hzr hnl
 have hzw := HB1.out.size
 have k0 : w1.cell? ⟨w.heap.size, 0, none⟩ = some (.slice An nn cn) := HK1.out.cell 0
 have k1 : w1.cell? ⟨w.heap.size, 1, none⟩ = some (.slice Ad nd cd) := HK1.out.cell 1
 go_wp2_with fail
 clear k0 k1
 refine (kJ An Ad Az Ae nn cn nd cd n c ne ce ds (qM ns ds ls z) z w1 ((HD.out.below HB1.out lR).more hzw) ((HZ.out.below HB1.out lR).more hzw) hoe.out.sl hnn HEN.out HAO.out HZI.out HCV.out hnz).mono ?_
 rintro e w2 ⟨A2, c2, rfl, hO, hb2⟩
 clear hb1 hoe
 go_wp2_with fail
 go_ret2
 exact ⟨.inr ⟨HEZ.out, A2, _, c2, rfl, hO.out.mono hzw⟩, HB1.out.trans (hb2.out.mono hzw)⟩
theorem lf (An Ad Al Az : Option Addr) (nn cn nd cd nl cl n c : Nat) (ns : List Nd) (ds : List Dv) (ls : List Lk) (z : List Int) (w : World) (hl : Laid w) (hn : Sl w w.heap.size 3 An nn cn (ns.flatMap Nd.cells)) (hd : Sl w w.heap.size 5 Ad nd cd (ds.flatMap Dv.cells)) (hs : Sl w w.heap.size 3 Al nl cl (ls.flatMap Lk.cells)) (hz : Sl w w.heap.size 1 Az n c (zK z))
 (hsn : ∀ x ∈ ns, x.name.size ≤ 9223372036854775807) (hsd : ∀ x ∈ ds, x.name.size ≤ 9223372036854775807) (hnz : n ≤ 10000) (hnd : nd ≤ 1000) :
 Calls Tryz.prog 57 #[.agg #[.slice An nn cn, .slice Ad nd cd], .slice Al nl cl, .slice Az n c] w (tA w (zv ns ds ls z) (vU ns ds ls z)) := by
 have HB : Hid (Below w.heap.size w (w.alloc (.cells #[.slice An nn cn, .slice Ad nd cd] 30))) := (Below.refl _ _).alloc lR _
 have HC := iD (nN An Ad Al Az nn cn nd cd nl cl n c ns ds ls z (w.alloc (.cells #[.slice An nn cn, .slice Ad nd cd] 30)) (hl.alloc _) ((hn.alloc lR _).more (by simp)) ((hd.alloc lR _).more (by simp)) ((hs.alloc lR _).more (by simp)) ((hz.alloc lR _).more (by simp)) hsn hsd hnz hnd)
 have hzl := HB.out.size
 clear hl hn hd hs hz hsn hsd
 go_enter Tryz.func57, Tryz.ntmps57
 go_wp2_with fail
 generalize World.alloc w _ = W at *
 refine HC.out.mono ?_
 rintro e w1 ⟨hcase, hb1⟩
 have HB1 := iD (HB.out.trans (hb1.out.mono HB.out.size))
 clear HB HC
 rcases hcase with ⟨he, rfl⟩ | ⟨he, Ae, ne, ce, rfl, hoe⟩
 ·have q : (zv ns ds ls z == 0) = false := by simpa using he
  have HNZ := iD he
  clear he hb1
  go_wp2_with fail
  go_ret2
  exact ⟨by rw [decide_eq_false HNZ.out]; rfl, HB1.out⟩
 have HEZ := iD he
 have HSB : Hid (vU ns ds ls z = ((ne : Int) == 0)) := by
  unfold Hid vU
  have := hoe.out.len
  cases hh : oC ns ds ls z <;> rw [hh] at this <;> simp at this ⊢ <;> omega
 clear he hb1 hoe
 go_wp2_with fail
 go_ret2
 exact ⟨by rw [HEZ.out, HSB.out]; rfl, HB1.out⟩
end
end Go.Proofs.YtepicjpdhpojnaaGreatDoor
