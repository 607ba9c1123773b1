import Derived.Test.YtddddlhgaeameaaGreatDoorJ18
import Derived.Test.YtddddlhgaeameaaGreatDoorJ26
import Derived.Test.YtddddlhgaeameaaGreatDoorLkSort
set_option maxRecDepth 100000
set_option maxHeartbeats 8000000
namespace Go.Proofs.YtddddlhgaeameaaGreatDoor
open Go.RowKit Tryz
variable {w : World} {B c g k n nd size : Nat} {m : List Int} {vs xs : List Value} {co d p q : Int} {A : Option Addr} {ns : List Nd} {ds : List Dv} {ls : List Lk} {e : TypeId}
def sa (wr : World) (B g : Nat) (m : List Int) (k : Nat) (vs : List Value) : Prop := ∀ j, j < k → ∃ (Aj : Option Addr) (cj : Nat), vs[j]? = some (Value.slice Aj m.length cj) ∧ Sl wr B 1 Aj m.length cj (zF (VI m m.length j)) ∧ ∀ b off, Aj = some ⟨b, off, none⟩ → g < b
theorem sa.below {w' : World} {B' : Nat} (h : sa w B g m k vs) (hb : Below B' w w') (hB : B ≤ B') : sa w' B g m k vs := fun j hj => by
 obtain ⟨Aj, cj, h1, h2, h3⟩ := h j hj;exact ⟨Aj, cj, h1, h2.below hb hB, h3⟩
theorem sa.far (h : sa w B g m k vs) {p : Addr} (hp : B ≤ p.block) (u : Value) : sa (w.setCell p u) B g m k vs := fun j hj => by
 obtain ⟨Aj, cj, h1, h2, h3⟩ := h j hj;exact ⟨Aj, cj, h1, h2.setCell hp u, h3⟩
theorem sa.row {i : Nat} (h : sa w B g m k vs) (hi : k ≤ i) (u : Value) : sa (w.setCell ⟨g, i, none⟩ u) B g m k (vs.set i u) := fun j hj => by
 obtain ⟨Aj, cj, h1, h2, h3⟩ := h j hj;refine ⟨Aj, cj, by rw [List.getElem?_set_ne (by omega)]; exact h1, ?_, h3⟩;obtain ⟨s1, s2, s3, s4, s5⟩ := h2;refine ⟨s1, s2, s3, s4, fun hn => ?_⟩;obtain ⟨b, off, e, hb, hc⟩ := s5 hn;have := h3 b off e;exact ⟨b, off, e, hb, fun t v hv => (World.cell?_setCell_other _ _ _ _ (fun e => by injection e with e1; omega)).trans (hc t v hv)⟩
theorem sa.put {l : List Int} (h : sa w B g m k vs) (hl : l = VI m m.length k) (hv : vs[k]? = some (Value.slice A m.length c)) (hs : Av w 1 A m.length c (zF l)) (hB : B ≤ w.heap.size) (hA : ∀ b off, A = some ⟨b, off, none⟩ → g < b) : sa w w.heap.size g m (k + 1) vs := fun j hj => by
 rcases Nat.lt_succ_iff_lt_or_eq.1 hj with hj | rfl
 ·obtain ⟨Aj, cj, h1, h2, h3⟩ := h j hj;exact ⟨Aj, cj, h1, h2.more hB, h3⟩
 ·exact ⟨A, c, hv, by rw [← hl]; exact hs, hA⟩
structure xo (ns : List Nd) (ds : List Dv) : Prop where
 e : xA ns.length ds
 a : Ki ns.length ds
 k : ∀ x ∈ ds, 1 ≤ x.kind ∧ x.kind ≤ 6
 ne : ∀ x ∈ ds, zV x.kind = true → x.b ≠ x.a
 nl : ns.length ≤ 32
 dl : ds.length ≤ 64
theorem lK {k : Int} : ∀ (ds : List Dv) (used : List (List UInt8)), vg k used ds = 0 → ∀ x ∈ ds, (1 ≤ x.kind ∧ x.kind ≤ 6) ∧ xW x.kind x.a x.b k = true
 | [], _, _, x, hx => by cases hx
 | y :: r, used, h, x, hx => by
  rw [vg] at h;by_cases h0 : xk k used y = 0
  ·rw [if_pos h0] at h;rcases List.mem_cons.1 hx with rfl | hx
   ·unfold xk at h0;by_cases h1 : yI (BA x.name) = false
    ·rw [if_pos h1] at h0; cases h0
    by_cases h2 : BA x.name ∈ used
    ·rw [if_neg h1, if_pos h2] at h0; cases h0
    by_cases h3 : x.kind < 1 ∨ 6 < x.kind
    ·rw [if_neg h1, if_neg h2, if_pos h3] at h0; cases h0
    by_cases h4 : xW x.kind x.a x.b k = false
    ·rw [if_neg h1, if_neg h2, if_neg h3, if_pos h4] at h0; cases h0
    exact ⟨by omega, by simpa using h4⟩
   ·exact lK r _ h x hx
  ·rw [if_neg h0] at h; exact absurd h h0
theorem xo.of (h : zR ns ds = 0) : xo ns ds := by
 unfold zR at h;by_cases h1 : 32 < ns.length
 ·rw [if_pos h1] at h; cases h
 by_cases h2 : 64 < ds.length
 ·rw [if_neg h1, if_pos h2] at h; cases h
 by_cases h3 : wo [] ns = 0
 ·rw [if_neg h1, if_neg h2, if_pos h3] at h;have H := lK ds _ h
  have E : ∀ x ∈ ds, 0 ≤ x.a ∧ x.a < ns.length ∧ (zV x.kind = true → 0 ≤ x.b ∧ x.b < ns.length ∧ x.b ≠ x.a) := fun x hx => by
   have := (H x hx).2;unfold xW at this;split at this
   ·cases this
   ·next e1 =>
    split at this
    ·cases this
    ·next e2 =>
     refine ⟨by omega, by omega, fun hj => ?_⟩;rw [if_neg (by rw [hj]; simp)] at this;simp at this;omega
  exact ⟨fun x hx hj => ⟨⟨(E x hx).1, (E x hx).2.1⟩, ((E x hx).2.2 hj).1, ((E x hx).2.2 hj).2.1⟩, fun x hx => ⟨(E x hx).1, (E x hx).2.1⟩, fun x hx => (H x hx).1, fun x hx hj => ((E x hx).2.2 hj).2.2, by omega, by omega⟩
 ·rw [if_neg h1, if_neg h2, if_neg h3] at h; exact absurd h h3
theorem zQ {s : List Int} (h : zG ns ds s = 0) : zR ns ds = 0 ∧ s.length = ds.length := by
 unfold zG at h;split at h
 ·next h1 => exact absurd h h1
 next h1 =>
 split at h
 ·cases h
 next h2 => exact ⟨by simpa using h1, by omega⟩
structure yp (w : World) (An Ad As Al Ap : Option Addr) (nn cn nd cd n c nl cl np cp : Nat) (ns : List Nd) (ds : List Dv) (s : List Int) (ls : List Lk) (pr : List Int) : Prop where
 hn : Av w 3 An nn cn (ns.flatMap Nd.cells)
 hd : Av w 5 Ad nd cd (ds.flatMap Dv.cells)
 hs : Av w 1 As n c (zF s)
 hl : Av w 3 Al nl cl (ls.flatMap Lk.cells)
 hp : Av w 1 Ap np cp (zF pr)
 la : yr w
 sn : ∀ x ∈ ns, x.name.size ≤ 9223372036854775807
 sd : ∀ x ∈ ds, x.name.size ≤ 9223372036854775807
section
variable {w W : World} {An Ad As Al Ap : Option Addr} {nn cn nd cd n c nl cl np cp : Nat} {ns : List Nd} {ds : List Dv} {s : List Int} {ls : List Lk} {pr : List Int}
theorem yp.below (h : yp w An Ad As Al Ap nn cn nd cd n c nl cl np cp ns ds s ls pr) (hb : bW w W) : yp W An Ad As Al Ap nn cn nd cd n c nl cl np cp ns ds s ls pr :=
 ⟨(h.hn.below hb lR).more hb.size, (h.hd.below hb lR).more hb.size, (h.hs.below hb lR).more hb.size, (h.hl.below hb lR).more hb.size, (h.hp.below hb lR).more hb.size, h.la.below hb lR, h.sn, h.sd⟩
theorem yp.ln (h : yp w An Ad As Al Ap nn cn nd cd n c nl cl np cp ns ds s ls pr) : ns.length = nn ∧ ds.length = nd ∧ s.length = n := ⟨h.hn.len (fun _ => rfl) (by decide), h.hd.len (fun _ => rfl) (by decide), h.hs.len (fun _ => rfl) (by decide)⟩
end
structure Kb (w : World) (nt op gr : Array Value) (W : World) : Prop where
 bl : bW w W
 bn : AJ W w.heap.size 26 nt
 bo : AJ W (w.heap.size + 1) 66 op
 bg : AJ W (w.heap.size + 2) 29 gr
theorem Kb.new (w : World) (nt op gr : Array Value) : Kb w nt op gr (((w.alloc (.cells nt 26)).alloc (.cells op 66)).alloc (.cells gr 29)) := by
 refine ⟨(((Below.refl _ _).alloc lR _).alloc (by simp) _).alloc (by simp; omega) _, ((AJ.new _ _ _).alloc _).alloc _, ?_, ?_⟩
 ·have := (AJ.new (w.alloc (.cells nt 26)) 66 op).alloc (.cells gr 29);simpa using this
 ·have := AJ.new ((w.alloc (.cells nt 26)).alloc (.cells op 66)) 29 gr;simpa using this
theorem Kb.later {W W' : World} {nt op gr : Array Value} (h : Kb w nt op gr W) (hb : bW W W') : Kb w nt op gr W' :=
 ⟨h.bl.trans (hb.mono h.bl.size), h.bn.below hb h.bn.lt, h.bo.below hb h.bo.lt, h.bg.below hb h.bg.lt⟩
theorem Kb.cells {W : World} {nn cn cd nl cl np cp : Nat} {An Ad Al Ap : Option Addr} (h : Kb w #[.slice An nn cn, .slice Ad nd cd] #[.int .i64 d, .int .i64 p] #[.int .i64 co, .slice Al nl cl, .slice Ap np cp] W) :
 (W.cell? ⟨w.heap.size, 0, none⟩ = some (.slice An nn cn) ∧ W.cell? ⟨w.heap.size, 1, none⟩ = some (.slice Ad nd cd)) ∧ (W.cell? ⟨w.heap.size + 1, 0, none⟩ = some (.int .i64 d) ∧ W.cell? ⟨w.heap.size + 1, 1, none⟩ = some (.int .i64 p)) ∧ W.cell? ⟨w.heap.size + 2, 0, none⟩ = some (.int .i64 co) ∧ W.cell? ⟨w.heap.size + 2, 1, none⟩ = some (.slice Al nl cl) ∧ W.cell? ⟨w.heap.size + 2, 2, none⟩ = some (.slice Ap np cp) :=
 ⟨⟨h.bn.cell 0, h.bn.cell 1⟩, ⟨h.bo.cell 0, h.bo.cell 1⟩, h.bg.cell 0, h.bg.cell 1, h.bg.cell 2⟩
def yx (nd : Nat) (d p co : Int) : Int := if d < 0 then 8 else if (nd : Int) ≤ d then 8 else if p ≠ 1 ∧ p ≠ 2 then 10 else if co < 0 then 5 else if 7 < co then 5 else 0
theorem ot (An Ad Al Ap : Option Addr) (nn cn nd cd nl cl np cp : Nat) (d p co : Int) (w : World) (_hndm : nd ≤ 9223372036854775807) :
 Calls prog 87 #[.agg #[.slice An nn cn, .slice Ad nd cd], .agg #[.int .i64 d, .int .i64 p], .agg #[.int .i64 co, .slice Al nl cl, .slice Ap np cp]] w fun e w' => e = .returned (.int .i64 (yx nd d p co)) ∧ bW w w' := by
 have HE : Hid (yx nd d p co = if d < 0 then 8 else if (nd : Int) ≤ d then 8 else if p ≠ 1 ∧ p ≠ 2 then 10 else if co < 0 then 5 else if 7 < co then 5 else 0) := rfl;have HB := iD (Kb.new w #[.slice An nn cn, .slice Ad nd cd] #[.int .i64 d, .int .i64 p] #[.int .i64 co, .slice Al nl cl, .slice Ap np cp]).bl;by_cases h1 : d < 0
 ·go_enter func87, ntmps87
  go_wp2_with fail
  go_ret;exact ⟨zC (by rw [HE.out, if_pos (by omega)]), HB⟩
 have q1 : decide (d < 0) = false := by simpa using h1
 by_cases h2 : (nd : Int) ≤ d
 ·go_enter func87, ntmps87
  go_wp2_with fail
  go_ret;exact ⟨zC (by rw [HE.out, if_neg (by omega), if_pos (by omega)]), HB⟩
 have q2 : decide ((nd : Int) ≤ d) = false := by simpa using h2
 by_cases h3 : p ≠ 1 ∧ p ≠ 2
 ·have q3 : (p != 1) = true := by simpa using h3.1
  have q4 : (p != 2) = true := by simpa using h3.2
  go_enter func87, ntmps87
  go_wp2_with fail
  go_ret;exact ⟨zC (by rw [HE.out, if_neg (by omega), if_neg (by omega), if_pos (by omega)]), HB⟩
 have Io : Hid (yx nd d p co = if co < 0 then 5 else if 7 < co then 5 else 0) := by unfold Hid; rw [HE.out, if_neg (by omega), if_neg (by omega), if_neg (by omega)]
 clear HE;by_cases h4 : co < 0
 ·rcases (show p = 1 ∨ p = 2 by omega) with rfl | rfl
  ·go_enter func87, ntmps87
   go_wp2_with fail
   go_ret;exact ⟨zC (by rw [Io.out, if_pos (by omega)]), HB⟩
  ·go_enter func87, ntmps87
   go_wp2_with fail
   go_ret;exact ⟨zC (by rw [Io.out, if_pos (by omega)]), HB⟩
 have q5 : decide (co < 0) = false := by simpa using h4
 have NI : Hid (yx nd d p co = if 7 < co then 5 else 0) := by unfold Hid; rw [Io.out, if_neg (by omega)]
 clear Io;by_cases h5 : 7 < co
 ·rcases (show p = 1 ∨ p = 2 by omega) with rfl | rfl
  ·go_enter func87, ntmps87
   go_wp2_with fail
   go_ret;exact ⟨zC (by rw [NI.out, if_pos (by omega)]), HB⟩
  ·go_enter func87, ntmps87
   go_wp2_with fail
   go_ret;exact ⟨zC (by rw [NI.out, if_pos (by omega)]), HB⟩
 have q6 : decide (7 < co) = false := by simpa using h5
 rcases (show p = 1 ∨ p = 2 by omega) with rfl | rfl
 ·go_enter func87, ntmps87
  go_wp2_with fail
  go_ret;exact ⟨zC (by rw [NI.out, if_neg (by omega)]), HB⟩
 ·go_enter func87, ntmps87
  go_wp2_with fail
  go_ret;exact ⟨zC (by rw [NI.out, if_neg (by omega)]), HB⟩
theorem ou (h : yx nd d p co = 0) : (0 ≤ d ∧ d < nd) ∧ (p = 1 ∨ p = 2) ∧ 0 ≤ co ∧ co ≤ 7 := by
 unfold yx at h;split at h
 ·cases h
 split at h
 ·cases h
 split at h
 ·cases h
 split at h
 ·cases h
 split at h
 ·cases h
 omega
theorem gN {An Ad As Al Ap : Option Addr} {nn cn cd nl cl np cp : Nat} {s : List Int} {pr : List Int} (h : yp w An Ad As Al Ap nn cn nd cd n c nl cl np cp ns ds s ls pr) (h0 : zG ns ds s = 0) (he : yx nd d p co = 0) :
 ∃ x : Dv, ds[d.toNat]? = some x ∧ Calls prog 88 #[.agg #[.slice An nn cn, .slice Ad nd cd], .slice As n c, .agg #[.int .i64 d, .int .i64 p], .agg #[.int .i64 co, .slice Al nl cl, .slice Ap np cp]] w (wP w (uq nn ns ds s d.toNat p co ls pr x)) := by
 obtain ⟨h1, h2, h3⟩ := h.ln;obtain ⟨hd, hp, _⟩ := ou he;obtain ⟨k, rfl⟩ := Int.eq_ofNat_of_zero_le hd.1;obtain ⟨hc, hsl⟩ := zQ h0;have H := xo.of hc;have hk : k < ds.length := by omega
 have hx : ds[k]? = some (ds[k]'hk) := List.getElem?_eq_getElem hk;have E := H.e; have A := H.a; have nl := H.nl; have dl := H.dl;rw [h1] at E A;refine ⟨_, hx, ?_⟩;exact iy An Ad As Al Ap nn cn nd cd n c _ cl np cp _ _ _ _ _ k p co ns ds s ls pr _ w h.la h.hn lR h.hd lR h.hs lR h.hl lR h.hp lR h.sn h.sd h0 (by omega) (by omega) (by omega) (by omega) hx E A hp (H.k _ (List.getElem_mem hk))
def xh (ns : List Nd) (ds : List Dv) (s : List Int) (d p co : Int) : Int := if zG ns ds s = 0 then yx ds.length d p co else zG ns ds s
def jn (w : World) (ns : List Nd) (ds : List Dv) (s : List Int) (d p co : Int) (ls : List Lk) (pr : List Int) (e : Ending) (w' : World) : Prop :=
 (xh ns ds s d p co ≠ 0 ∧ e = .returned (.tuple #[.slice none 0 0, .int .i64 (xh ns ds s d p co)]) ∨ xh ns ds s d p co = 0 ∧ ∃ (A : Option Addr) (k c : Nat) (x : Dv), ds[d.toNat]? = some x ∧ e = .returned (.tuple #[.slice A k c, .int .i64 0]) ∧ Hid (zN w' w.heap.size A k c (uq ns.length ns ds s d.toNat p co ls pr x))) ∧ Hid (Below w.heap.size w w')
theorem jm (An Ad As Al Ap : Option Addr) (nn cn nd cd n c nl cl np cp : Nat) (ns : List Nd) (ds : List Dv) (s : List Int) (ls : List Lk) (pr : List Int) (d p co : Int) (w : World) (h : yp w An Ad As Al Ap nn cn nd cd n c nl cl np cp ns ds s ls pr) :
 Calls prog 62 #[.agg #[.slice An nn cn, .slice Ad nd cd], .slice As n c, .agg #[.int .i64 d, .int .i64 p], .agg #[.int .i64 co, .slice Al nl cl, .slice Ap np cp]] w (jn w ns ds s d p co ls pr) := by
 obtain ⟨DJ, Ic, FR⟩ := h.ln;have Vg := h.hd.le;have HB := iD (Kb.new w #[.slice An nn cn, .slice Ad nd cd] #[.int .i64 d, .int .i64 p] #[.int .i64 co, .slice Al nl cl, .slice Ap np cp]);have HH := iD h;clear h;have IZ : Hid (xh ns ds s d p co = if zG ns ds s = 0 then yx nd d p co else zG ns ds s) := by unfold Hid xh; rw [Ic]
 go_enter func62, ntmps62
 go_wp2_with fail
 generalize World.alloc (World.alloc (World.alloc w _) _) _ = W at *;have HM := iD (HH.below HB.bl);have HC := iD (vc An Ad As nn cn nd cd n c W.heap.size W.heap.size W.heap.size ns ds s W HM.la HM.hn HM.hd HM.hs lR lR lR HM.sn HM.sd);refine HC.mono ?_;rintro e w1 ⟨rfl, AX⟩;have AL := iD (HB.later AX);clear AX HC HM HB;by_cases h0 : zG ns ds s = 0; rotate_left
 ·have q : (zG ns ds s == 0) = false := by simpa using h0
  have q2 : (zG ns ds s != 0) = true := by simpa using h0
  have HR : Hid (xh ns ds s d p co = zG ns ds s) := by unfold Hid; rw [IZ.out, if_neg h0]
  have H0 := iD h0;clear h0 IZ
  go_wp2_with fail
  go_ret2;exact ⟨.inl ⟨by rw [HR.out]; exact H0, by rw [HR.out]; rfl⟩, AL.bl⟩
 have HR : Hid (xh ns ds s d p co = yx nd d p co) := by unfold Hid; rw [IZ.out, if_pos h0]
 have H0 := iD h0;clear IZ;rw [h0];clear h0;obtain ⟨⟨k0, k1⟩, ⟨o0, o1⟩, g0, g1, g2⟩ := AL.cells
 go_wp2_with fail
 clear k0 k1 o0 o1 g0 g1 g2;refine (ot An Ad Al Ap nn cn nd cd nl cl np cp d p co w1 (by omega)).mono ?_;rintro e w2 ⟨rfl, AQ⟩;have AY := iD (AL.later AQ);clear AQ AL;by_cases he : yx nd d p co = 0; rotate_left
 ·have q : (yx nd d p co != 0) = true := by simpa using he
  have HE := iD he;clear he
  go_wp2_with fail
  go_ret2;exact ⟨.inl ⟨by rw [HR.out]; exact HE, by rw [HR.out]; rfl⟩, AY.bl⟩
 have HE := iD he;rw [he] at HR ⊢;clear he;obtain ⟨x, hx, Ig⟩ := gN (HH.below AY.bl) H0 HE.out;have Lv := iD Ig; have HX := iD hx;clear Ig hx;obtain ⟨⟨k0, k1⟩, ⟨o0, o1⟩, g0, g1, g2⟩ := AY.cells
 go_wp2_with fail
 clear k0 k1 o0 o1 g0 g1 g2;refine Lv.mono ?_;rintro e w3 ⟨A, ca, rfl, hO, BJ⟩
 go_wp2_with fail
 go_ret2;exact ⟨.inr ⟨HR, A, _, ca, x, HX, rfl, by subst DJ; exact hO.mono AY.bl.size⟩, AY.bl.trans (BJ.mono AY.bl.size)⟩
section
open Go.Sort (grow)
instance : Inhabited Lk := ⟨⟨0, 0, 0⟩⟩
theorem nB (ls : List Lk) : Go.Sort.flatK Lk.cells 3 ls.toArray = (ls.flatMap Lk.cells).toArray := by
 apply Array.ext'
 simp only [Go.Sort.flatK, Array.toList_map, Array.toList_range, List.size_toArray]
 apply List.ext_getElem?
 intro t;rw [List.getElem?_map];by_cases ht : t < ls.length * 3
 ·rw [List.getElem?_range ht];have h3 : t = t / 3 * 3 + t % 3 := by omega
  have hq : t / 3 < ls.length := by omega
  have := uQ (f := Lk.cells) (size := 3) (fun _ => rfl) ls (t / 3) (t % 3) _ (List.getElem?_eq_getElem hq) (by omega);rw [← h3] at this;rw [this];simp only [Option.map_some];have hr : t % 3 < (Lk.cells ls[t / 3]).length := by show t % 3 < 3; omega
  rw [List.getElem?_eq_getElem hr]
  congr 1
  have e1 : ls.toArray[t / 3]! = ls[t / 3] := by simp [hq]
  rw [e1, List.getElem!_eq_getElem?_getD, List.getElem?_eq_getElem hr]; rfl
 ·rw [List.getElem?_eq_none (by simp; omega), List.getElem?_eq_none (by rw [yF (size := 3) (fun _ => rfl)]; omega)]; rfl
theorem jP {cur : Array Value} (hb : w.heap[g]? = some (.cells cur e (0, 0))) (ht : cur.toList.take (ls.length * 3) = ls.flatMap Lk.cells) : Go.Sort.HoldsK Lk.cells 3 w g 0 ls.toArray := by
 unfold Go.Sort.HoldsK;rw [nB];intro j hj;have hj' : j < ls.length * 3 := by rw [List.size_toArray, yF (size := 3) (fun _ => rfl)] at hj; exact hj
 refine ⟨?_, by simp [World.frozen?, hb]⟩;have h1 : (cur.toList.take (ls.length * 3))[j]? = (ls.flatMap Lk.cells)[j]? := by rw [ht]
 rw [List.getElem?_take_of_lt hj', Array.getElem?_toList] at h1;have h2 := cell_of_row w g (0 + j) _ _ _ hb;rw [h2, Nat.zero_add, h1];have hl : j < (ls.flatMap Lk.cells).length := by rw [yF (size := 3) (fun _ => rfl)]; exact hj'
 rw [List.getElem?_eq_getElem hl];simp only [id, List.getElem!_toArray, List.getElem!_eq_getElem?_getD];rw [List.getElem?_eq_getElem hl]; rfl
theorem oQ {base cap m : Nat} {os : Array Obj} {cur : Array Value} (hx : xs.length = m * size) (CX : base ≤ g) (hb : w.heap[g]? = some (.cells cur e (0, 0))) (h1 : m ≤ cap) (h2 : cap ≤ maxLen) (h3 : cur.size = cap * size) :
 (grow (Go.Sort.putRow id (Go.Sort.ahead w n) g 0 xs.toArray) os).ownsRow base e size (.slice (some ⟨g, 0, none⟩) m cap) m xs := by
 have hg : g < w.heap.size := (Array.getElem?_eq_some_iff.1 hb).1;refine ⟨hx, .inr ⟨g, cap, Go.Sort.putCells id 0 xs.toArray cur, rfl, CX, ?_, h1, h2, by simp [Go.Sort.putCells, h3], ?_⟩⟩
 ·rw [Go.Sort.heap_grow_old _ _ (by simpa using hg)];simp [Go.Sort.putRow, Go.Sort.mapBlock, Go.Sort.ahead, Array.getElem?_modify, hb, Go.Sort.onCells]
 ·rw [← hx];have hle : xs.length ≤ cur.size := by rw [hx, h3]; exact Nat.mul_le_mul_right _ h1
  apply List.ext_getElem?
  intro j;by_cases hj : j < xs.length
  ·rw [List.getElem?_take_of_lt hj, Array.getElem?_toList];simp [Go.Sort.putCells, hj, show j < cur.size by omega]
  ·rw [List.getElem?_take_eq_none (by omega), List.getElem?_eq_none (by omega)]
theorem rv {os : Array Obj} (d : Array Value) : w.grownBy (grow (Go.Sort.putRow id (Go.Sort.ahead w n) g 0 d) os) (some g) := by
 refine ⟨rfl, rfl, rfl, by simp, fun k hk hne => ?_⟩;rw [Go.Sort.heap_grow_old _ _ (by simpa using hk)];have : g ≠ k := fun e => hne (by rw [e])
 simp [Go.Sort.putRow, Go.Sort.mapBlock, Go.Sort.ahead, Array.getElem?_modify, this]
theorem ju : Go.Sort.SWO (ltOf pU) := by
 have key : ∀ x y, ltOf pU x y = zu x y := fun x y => by
  unfold ltOf;rcases h : zu x y with _ | _
  ·have := rJ x y; rw [h] at this; simp at this ⊢; omega
  ·have := rJ x y; rw [h] at this; simp at this ⊢; omega
 refine ⟨fun x => ?_, fun x y z => ?_, fun x y z => ?_⟩
 ·rw [key]; unfold zu; simp
 ·rw [key, key, key]; exact sD
 ·rw [key, key, key];intro h1 h2;rcases h : zu x z with _ | _
  ·rfl
  ·have a1 : ¬ zu x y = true := by rw [h1]; simp
   have a2 : ¬ zu y z = true := by rw [h2]; simp
   rw [uU] at a1 a2 h; omega
theorem ir (x y : Lk) : ltOf pU x y = zu x y := by
 unfold ltOf;rcases h : zu x y with _ | _
 ·have := rJ x y; rw [h] at this; simp at this ⊢; omega
 ·have := rJ x y; rw [h] at this; simp at this ⊢; omega
theorem rB (A : Option Addr) (n c base : Nat) (ls : List Lk) (w : World) (h : ze w base A n c ls) (h0 : 0 < n) (hn : n ≤ 1000000) :
 Calls prog 125 #[.slice A n c, .func (.func 99) #[] #[]] w fun e w' => e = .returned (.tuple #[]) ∧ ∃ ms : List Lk, Hid (ms.Perm ls) ∧ Hid (ms.Pairwise fun x y => zu y x = false) ∧ Hid (ze w' base A n c ms) ∧ Hid (w.grownBy w' (Value.slice A n c).ownBlock) := by
 have hl := h.len;rcases h.2 with ⟨_, h1⟩ | ⟨g, cap, cur, hv, hb, hh, Ir, hm, hs, ht⟩
 ·omega
 ·injection hv with h1 h2 h3;subst h1 h3;subst hl
  have AE := AnyQ.slices_SortFunc sortLkSort 3 isAgg87 sizeOf87 Lk.cells (fun _ => rfl) (fun x v hv => by simp [Lk.cells] at hv; rcases hv with rfl | rfl | rfl <;> rfl) pU ju 99 #[] g 0 c ls.toArray w
   (enters_of func99 (by kernel_rfl) rfl) (fun _ _ _ _ x y => qT x y _) (jP hh ht) (h.lt g rfl).2 (by simp; omega)
  refine AE.mono ?_;rintro e w1 ⟨rfl, d', k, os, ⟨hz, _, hp⟩, Hw, rfl⟩;have hz' : d'.toList.length = ls.length := by simpa using hz
  refine ⟨rfl, d'.toList, ?_, ?_, ?_, rv _⟩
  ·have e2 : (ls.toArray.extract 0 ls.toArray.size).toList = ls := by simp
   have e3 : (d'.extract 0 ls.toArray.size).toList = d'.toList := by rw [← hz]; simp
   rw [e2, e3] at hp;exact hp
  ·show List.Pairwise _ _
   rw [List.pairwise_iff_getElem];intro i j hi hj Ji;have GD : d'.size = ls.length := by simpa using hz
   have := Hw i j (Nat.zero_le _) Ji (by simp at hj ⊢; omega);rw [ir] at this;have hi' : i < d'.size := by simpa using hi
   have hj' : j < d'.size := by simpa using hj
   rw [getElem!_pos d' i hi', getElem!_pos d' j hj'] at this;simpa using this
  ·have := oQ (n := k) (os := os) (xs := d'.toList.flatMap Lk.cells) (m := ls.length) (size := 3) (by rw [yF (size := 3) (fun _ => rfl), hz']) hb hh Ir hm hs;rw [← nB] at this;exact this
end
theorem oB {ms : List Lk} {k : Lk} (hg : wQ ds (xy k ls)) (hp : ms.Perm (ls ++ [k])) (hs : ms.Pairwise fun x y => zu y x = false) : ms = xy k ls := by
 have AO : ms.Perm (xy k ls) := hp.trans (jM k ls).symm;have hk : (xy k ls).Pairwise fun a b : Lk => a.key ≠ b.key := hg.2.2.imp fun h => h.2.2
 have Ab : ms.Pairwise fun a b : Lk => a.key ≠ b.key := AO.symm.pairwise hk (fun h e => h e.symm)
 refine jH ?_ hg.sorted (fun x => AO.mem_iff);exact (hs.and Ab).imp fun ⟨h1, h2⟩ => qy (fun e => h2 e.symm) h1
theorem kr {base : Nat} (hb : base ≤ w.heap.size) : (w.alloc (.cells #[] e)).ownsRow base e 3 (.slice (some ⟨w.heap.size, 0, none⟩) 0 0) 0 [] :=
 ⟨rfl, .inr ⟨w.heap.size, 0, #[], rfl, hb, heap_alloc_new w _, Nat.le_refl _, by simp [maxLen], rfl, rfl⟩⟩
theorem tI (A : Option Addr) (n c : Nat) (w : World) : (binOp BinOp.eql 27 (.slice A n c) (.slice none 0 0)).run prog w = .ok (.bool A.isNone) w := by
 cases A <;> kernel_rfl
theorem vE (A : Option Addr) (n c B : Nat) (l : List Lk) (w : World) (hs : Sl w B 3 A n c (l.flatMap Lk.cells)) (hB : B ≤ w.heap.size) (hn : n ≤ 1000000) : Calls prog 67 #[.slice A n c] w fun e w' => ∃ (A' : Option Addr) (c' : Nat), e = .returned (.slice A' l.length c') ∧ Hid (ze w' w.heap.size A' l.length c' l) ∧ Hid (bW w w') := by
 have hl := hs.len (fun _ => rfl) (by decide);have HL := iD hl; clear hl;cases A with
 | none =>
  have h0 : n = 0 := by have := hs.2.2.2.1 rfl; have := hs.le; omega
  subst h0;have PN : l = [] := List.eq_nil_of_length_eq_zero HL.out;subst PN;clear hs HL;have Gm := tI none 0 c w;simp only [Option.isNone_none] at Gm
  go_enter func67, ntmps67
  go_wp2_with fail
  go_ret;exact ⟨none, 0, rfl, World.ownsRow_nil _ _ _ _, Below.refl _ _⟩
 | some a =>
  have HS := iD hs;have hH := hs.le;clear hs;have Gm := tI (some a) n c w;simp only [Option.isNone_some] at Gm
  go_enter func67, ntmps67
  have h1 : ∀ u ∈ l.flatMap Lk.cells, u.oneCell' = true := yR l
  have BD := iD (HS.alloc hB (.cells #[] 87))
  go_wp2_with (at_builtin; go_must (refine zL rfl (.tmp 5) (.tmp 6) rfl yO (base := w.heap.size) (n := 0) (xs := []) (by rfl) (kr lR) (by rfl) BD h1 (by omega) (by omega) (by simp) ?_; intro A' cap' w2 EP Gs MR; simp only [Nat.zero_add, List.nil_append] at EP Gs; have HO := iD EP; have HG := iD Gs; clear EP Gs MR))
  go_ret;obtain rfl : l.length = n := HL.out;exact ⟨A', cap', rfl, HO, ((Below.refl _ _).alloc lR _).trans (yX HG lR (by simp))⟩
theorem wv {w4 w5 w6 : World} {o : Obj} (h5 : Below w4.drew.heap.size w4.drew w5) (ho : w5.ownsRow w4.drew.heap.size e size (.slice A n c) n xs) (h6 : (w5.alloc o).grownBy w6 (Value.slice A n c).ownBlock) : bW w4 w6 := by
 have h1 : Below w4.heap.size w4 w5 := (Below.refl _ _).drew.trans h5;have h2 := h1.alloc h1.size o;exact h2.trans ⟨h6.os, h6.tape, h6.output, h6.size, fun t ht => h6.block t (by have := h2.size; omega) (fun e => by have := (ho.lt t e.symm).1; simp only [World.drew] at this; omega)⟩
theorem wu {w4 w5 w6 : World} {o : Obj} (h5 : Below (w4.drew.alloc o).heap.size (w4.drew.alloc o) w5) (ho : w5.ownsRow (w4.drew.alloc o).heap.size e size (.slice A n c) n xs) (h6 : w5.grownBy w6 (Value.slice A n c).ownBlock) : bW w4 w6 := by
 have hsz : (w4.drew.alloc o).heap.size = w4.heap.size + 1 := by simp
 have h1 : Below w4.heap.size w4 w5 := ((Below.refl _ _).drew.alloc (by simp) o).trans (h5.mono (by omega));exact h1.trans ⟨h6.os, h6.tape, h6.output, h6.size, fun t ht => h6.block t (by have := h1.size; omega) (fun e => by have := (ho.lt t e.symm).1; omega)⟩
theorem jL (An Ad Al : Option Addr) (nn cn nd cd c Bn Bd Bl : Nat) (ns : List Nd) (ds : List Dv) (ls : List Lk) (d p q : Int) (w : World) (Ie : yr w) (hn : Sl w Bn 3 An nn cn (ns.flatMap Nd.cells)) (hd : Sl w Bd 5 Ad nd cd (ds.flatMap Dv.cells)) (hs : Sl w Bl 3 Al ls.length c (ls.flatMap Lk.cells)) (Ce : Bn ≤ w.heap.size) (BN : Bd ≤ w.heap.size) (Df : Bl ≤ w.heap.size)
 (Bj : FO ns) (Bc : GH ds) :
 Calls prog 94 #[.agg #[.slice An nn cn, .slice Ad nd cd], .slice Al ls.length c, .agg #[.int .i64 d, .int .i64 p, .int .i64 q]] w (pE w ns ds ls ⟨d, p, q⟩) := by
 obtain ⟨n, Gl⟩ := eX ls.length;rw [← Gl] at hs ⊢;have JG := iD Gl;have HE : Hid (zf ns ds ls ⟨d, p, q⟩ = if zH ns ds ls ≠ 0 then zH ns ds ls else if zy ds ⟨d, p, q⟩ ≠ 0 then zy ds ⟨d, p, q⟩ else if yq ls q = true then 4 else if yj ls ⟨d, p, q⟩ = true then 18 else if n = 128 then 1 else 0) := by unfold Hid zf; rw [Gl]
 have hle := hs.le;have HD := iD hd; have HS := iD hs
 have Ar : Hid (rx w #[.slice An nn cn, .slice Ad nd cd] #[.int .i64 d, .int .i64 p, .int .i64 q] ((w.alloc (.cells #[.slice An nn cn, .slice Ad nd cd] 26)).alloc (.cells #[.int .i64 d, .int .i64 p, .int .i64 q] 87))) :=
  ⟨(AJ.new _ _ _).alloc _, by have := AJ.new (w.alloc (.cells #[.slice An nn cn, .slice Ad nd cd] 26)) 87 #[.int .i64 d, .int .i64 p, .int .i64 q]; simpa using this, ((Below.refl _ _).alloc lR _).alloc (by simp) _⟩
 have XI := iD ((Ie.alloc (.cells #[.slice An nn cn, .slice Ad nd cd] 26)).alloc (.cells #[.int .i64 d, .int .i64 p, .int .i64 q] 87));have AP := hn.below Ar.bl Ce;clear hd hs Gl Ie
 go_enter func94, ntmps94
 go_upto_region 1 with (fail);generalize World.alloc (World.alloc _ _) _ = W at *;have hz := Ar.bl.size;have Cy := iD (uo An Ad Al nn cn nd cd n c Bn Bd Bl ns ds ls W XI AP (HD.below Ar.bl BN) (HS.below Ar.bl Df) (by omega) (by omega) (by omega) Bj Bc);obtain ⟨k0, k1⟩ := Ar.bn.d2;clear AP hn Bj Bc XI
 go_wp2_with fail
 clear k0 k1;refine Cy.mono ?_;rintro e w1 ⟨rfl, AX⟩;have BD := iD (Ar.later AX);clear AX Ar hz Cy;by_cases h0 : zH ns ds ls = 0; rotate_left
 ·have q0 : (zH ns ds ls != 0) = true := by simpa using h0
  have q1 : (zH ns ds ls == 0) = false := by simpa using h0
  have HR : Hid (zf ns ds ls ⟨d, p, q⟩ = zH ns ds ls) := by unfold Hid; rw [HE.out, if_pos h0]
  have JF := iD h0;clear h0
  go_wp2_with fail
  go_ret2;exact ⟨.inl (by rw [HR.out]; exact ⟨JF, rfl⟩), BD.bl⟩
 have HG := iD (yW h0);rw [h0];replace HE : Hid (zf ns ds ls ⟨d, p, q⟩ = if zy ds ⟨d, p, q⟩ ≠ 0 then zy ds ⟨d, p, q⟩ else if yq ls q = true then 4 else if yj ls ⟨d, p, q⟩ = true then 18 else if n = 128 then 1 else 0) := by unfold Hid; rw [HE.out, if_neg (by simp [h0])]
 clear h0;obtain ⟨k0, k1⟩ := BD.bn.d2;obtain ⟨m0, m1, m2⟩ := BD.bk.d3;have Fj := BD.bl.size
 go_wp2_with fail
 clear k0 k1 m0 m1 m2;refine (qE An Ad nn cn nd cd Bd ds d p q w1 (HD.below BD.bl BN) (by omega)).mono ?_;rintro e w2 ⟨rfl, AQ⟩;have Db := iD (BD.later AQ);clear AQ BD Fj;by_cases h1 : zy ds ⟨d, p, q⟩ = 0; rotate_left
 ·have q0 : (zy ds ⟨d, p, q⟩ != 0) = true := by simpa using h1
  have HR : Hid (zf ns ds ls ⟨d, p, q⟩ = zy ds ⟨d, p, q⟩) := by unfold Hid; rw [HE.out, if_pos h1]
  have JF := iD h1;clear h1
  go_wp2_with fail
  go_ret2;exact ⟨.inl (by rw [HR.out]; exact ⟨JF, rfl⟩), Db.bl⟩
 have AU := iD h1;rw [h1];replace HE : Hid (zf ns ds ls ⟨d, p, q⟩ = if yq ls q = true then 4 else if yj ls ⟨d, p, q⟩ = true then 18 else if n = 128 then 1 else 0) := by unfold Hid; rw [HE.out, if_neg (by simp [h1])]
 clear h1;have m2 := Db.bk.c2;have GD := Db.bl.size
 go_wp2_with fail
 clear m2;refine (su Al n c Bl ls q w2 (HS.below Db.bl Df) (by omega)).mono ?_;rintro e w3 ⟨rfl, BJ⟩;have EG := iD (Db.later BJ);clear BJ Db GD;rcases hu : yq ls q with _ | _;rotate_left
 ·have HR : Hid (zf ns ds ls ⟨d, p, q⟩ = 4) := by unfold Hid; rw [HE.out, if_pos hu]
  clear hu
  go_wp2_with fail
  go_ret2;exact ⟨.inl (by rw [HR.out]; exact ⟨by decide, rfl⟩), EG.bl⟩
 replace HE : Hid (zf ns ds ls ⟨d, p, q⟩ = if yj ls ⟨d, p, q⟩ = true then 18 else if n = 128 then 1 else 0) := by unfold Hid; rw [HE.out, if_neg (by rw [hu]; simp)]
 have HU := iD hu;clear hu;obtain ⟨m0, m1, m2⟩ := EG.bk.d3;have JO := EG.bl.size
 go_wp2_with fail
 clear m0 m1 m2;refine (th Al n c Bl ls d p q w3 (HS.below EG.bl Df) (by omega)).mono ?_;rintro e w4 ⟨rfl, BX⟩;have Bh := iD (EG.later BX);clear BX EG JO;rcases ho : yj ls ⟨d, p, q⟩ with _ | _;rotate_left
 ·have HR : Hid (zf ns ds ls ⟨d, p, q⟩ = 18) := by unfold Hid; rw [HE.out, if_pos ho]
  clear ho
  go_wp2_with fail
  go_ret2;exact ⟨.inl (by rw [HR.out]; exact ⟨by decide, rfl⟩), Bh.bl⟩
 replace HE : Hid (zf ns ds ls ⟨d, p, q⟩ = if n = 128 then 1 else 0) := by unfold Hid; rw [HE.out, if_neg (by rw [ho]; simp)]
 have HO := iD ho;clear ho;have Nj : n ≤ 128 := by have := HG.1; have := JG.out; omega
 by_cases El : n = 128
 ·have HR : Hid (zf ns ds ls ⟨d, p, q⟩ = 1) := by unfold Hid; rw [HE.out, if_pos El]
  have q1 : ((n : Int) == (128 : Int)) = true := by simp; omega
  have q2 : decide (n = 128) = true := by simpa using El
  clear El
  go_wp2_with fail
  go_ret2;exact ⟨.inl (by rw [HR.out]; exact ⟨by decide, rfl⟩), Bh.bl⟩
 have HR : Hid (zf ns ds ls ⟨d, p, q⟩ = 0) := by unfold Hid; rw [HE.out, if_neg El]
 have Jy := iD (rT HG AU HU HO (by have := JG.out; omega));have q1 : ((n : Int) == (128 : Int)) = false := by simp; omega
 have q2 : decide (n = 128) = false := by simpa using El
 clear El HE AU HU HO;have Au : Hid (w4.cell? ⟨w.heap.size + 1, 0, none⟩ = some (.int .i64 d) ∧ w4.cell? ⟨w.heap.size + 1, 1, none⟩ = some (.int .i64 p) ∧ w4.cell? ⟨w.heap.size + 1, 2, none⟩ = some (.int .i64 q)) := ⟨Bh.bk.cell 0, Bh.bk.cell 1, Bh.bk.cell 2⟩;have FY := iD (HS.below Bh.bl Df);have Pi := Bh.bl.size;have Gl := JG.out;subst Gl;go_upto_region 12 with (fail);refine fX (fun W' => W'.cell? ⟨w.heap.size + 1, 0, none⟩ = some (.int .i64 d) ∧ W'.cell? ⟨w.heap.size + 1, 1, none⟩ = some (.int .i64 p) ∧ W'.cell? ⟨w.heap.size + 1, 2, none⟩ = some (.int .i64 q)) [] ?_ fun AA => ?_
 ·exact Au.out
 try dsimp only at AA
 refine tk 0 35 (mf 6 1) AA ?_;refine tk 2 37 (ma 6 5) AA ?_;refine yP (i := 1) (k := 3) (mf 6 3) (ma 6 13) (by kernel_rfl) (by kernel_rfl) (by kernel_rfl) rfl rfl (fun K hK => ?_) (fun K hK => ?_)
 ·(go_simp; refine (vE Al ls.length c Bl ls w4.drew FY.drew (by simp only [World.drew]; omega) (by omega)).mono ?_; rintro e w5 ⟨A5, c5, rfl, Ev, BM⟩; go_simp)
  refine hK _ _ (fun _ => ⟨zD BM Au.1, zD BM Au.2.1, zD BM Au.2.2⟩) fun p => (fun AA => ?_) (p rfl)
  clear p hK K;(try dsimp only at AA);refine tb 3 (mf 6 4) fun K hK => ?_
  go_simp
  refine hK _ _ (fun _ => ⟨zt _ (zD BM Au.1), zt _ (zD BM Au.2.1), zt _ (zD BM Au.2.2)⟩) fun p => (fun AA => ?_) (p rfl)
  clear p hK K;(try dsimp only at AA);refine tb 4 (mf 6 5) fun K hK => ?_
  (refine zi (d := some 39) (by rfl) (by rfl) (.tmp 36) (.tmp 38) (by rfl) yO (by rfl) (World.ownsRow.alloc Ev _) (by rfl) (Sl.newest (n := 1) (by simp) (by rfl) (by decide)) (by simp [Value.oneCell']) (by omega) (by omega) (by have := BM.size; simp at this ⊢; omega) ?_; intro A6 c6 w6 BZ BG Ej)
  refine hK _ _ (fun _ => ⟨zD (wv BM Ev BG) Au.1, zD (wv BM Ev BG) Au.2.1, zD (wv BM Ev BG) Au.2.2⟩) fun p => (fun AA => ?_) (p rfl)
  clear p hK K;(try dsimp only at AA);refine tk 5 9 (mf 6 6) AA ?_;refine tK ?_;clear AA;have EA : Hid (Below w4.heap.size w4 w6) := by first | exact wv BM Ev BG | exact wu BM Ev BG
  have EH : Hid (ze w6 w.heap.size A6 (ls.length + 1) c6 (ls ++ [⟨d, p, q⟩])) := by unfold Hid ze; rw [List.flatMap_append]; exact World.ownsRow.mono BZ (by simp; omega)
  clear BZ BG Ej Ev BM
  go_wp2_with fail
  refine (rB A6 (ls.length + 1) c6 w.heap.size _ w6 EH (by omega) (by omega)).mono ?_;rintro e w7 ⟨rfl, ms, AB, hsm, AG, Ko⟩
  go_wp2_with fail
  go_ret2;refine ⟨.inr ⟨HR, A6, c6, rfl, ?_⟩, ?_⟩
  ·rw [← oB Jy.out AB.out hsm.out]; exact AG
  ·have h1 := Bh.bl.trans (EA.mono Bh.bl.size); exact h1.trans ⟨Ko.os, Ko.tape, Ko.output, Ko.size, fun t ht => Ko.block t (by have := h1.size; omega) (fun e => by have := (EH.lt t e.symm).1; omega)⟩
 ·go_simp
  refine hK _ _ (fun _ => ⟨zt _ Au.1, zt _ Au.2.1, zt _ Au.2.2⟩) fun p => (fun AA => ?_) (p rfl)
  clear p hK K;(try dsimp only at AA);refine tb 1 (mf 6 4) fun K hK => ?_
  (go_simp; refine (vE Al ls.length c Bl ls _ (FY.drew.alloc (by simp only [World.drew]; omega) _) (by simp; omega) (by omega)).mono ?_; rintro e w5 ⟨A5, c5, rfl, Ev, BM⟩; go_simp)
  refine hK _ _ (fun _ => ⟨zD BM (zt _ Au.1), zD BM (zt _ Au.2.1), zD BM (zt _ Au.2.2)⟩) fun p => (fun AA => ?_) (p rfl)
  clear p hK K;(try dsimp only at AA);refine tb 4 (mf 6 5) fun K hK => ?_
  (refine zi (d := some 39) (by rfl) (by rfl) (.tmp 36) (.tmp 38) (by rfl) yO (by rfl) Ev (by rfl) ((Sl.newest (w := w4.drew) (cs := #[.int .i64 d, .int .i64 p, .int .i64 q]) (T := 87) (n := 1) (size := 3) rfl (by rfl) (by decide)).below BM (by simp)) (by simp [Value.oneCell']) (by omega) (by omega) (by have := BM.size; simp at this ⊢; omega) ?_; intro A6 c6 w6 BZ BG Ej)
  refine hK _ _ (fun _ => ⟨zD (wu BM Ev BG) Au.1, zD (wu BM Ev BG) Au.2.1, zD (wu BM Ev BG) Au.2.2⟩) fun p => (fun AA => ?_) (p rfl)
  clear p hK K;(try dsimp only at AA);refine tk 5 9 (mf 6 6) AA ?_;refine tK ?_;clear AA;have EA : Hid (Below w4.heap.size w4 w6) := by first | exact wv BM Ev BG | exact wu BM Ev BG
  have EH : Hid (ze w6 w.heap.size A6 (ls.length + 1) c6 (ls ++ [⟨d, p, q⟩])) := by unfold Hid ze; rw [List.flatMap_append]; exact World.ownsRow.mono BZ (by simp; omega)
  clear BZ BG Ej Ev BM
  go_wp2_with fail
  refine (rB A6 (ls.length + 1) c6 w.heap.size _ w6 EH (by omega) (by omega)).mono ?_;rintro e w7 ⟨rfl, ms, AB, hsm, AG, Ko⟩
  go_wp2_with fail
  go_ret2;refine ⟨.inr ⟨HR, A6, c6, rfl, ?_⟩, ?_⟩
  ·rw [← oB Jy.out AB.out hsm.out]; exact AG
  ·have h1 := Bh.bl.trans (EA.mono Bh.bl.size); exact h1.trans ⟨Ko.os, Ko.tape, Ko.output, Ko.size, fun t ht => Ko.block t (by have := h1.size; omega) (fun e => by have := (EH.lt t e.symm).1; omega)⟩
theorem vT : ∀ (vs : List Value) (s : Nat) (F : Array Value), s + vs.length ≤ F.size → (Go.Sort.setMany F s vs).toList = F.toList.take s ++ vs ++ F.toList.drop (s + vs.length)
 | [], s, F, _ => by simp [Go.Sort.setMany]
 | v :: r, s, F, h => by
  have h' : s + r.length + 1 ≤ F.size := by simp at h; omega
  rw [Go.Sort.setMany, vT r (s + 1) _ (by simp; omega)];have e1 : (F.setIfInBounds s v).toList = F.toList.set s v := by simp
  have hs : s < F.toList.length := by simp; omega
  rw [e1, show s + (v :: r).length = s + 1 + r.length by simp; omega, List.drop_set_of_lt (by omega)]
  congr 1
  rw [List.take_add_one, List.take_set_of_le lR, List.getElem?_set_self hs];simp
theorem AJ.setCells {t : TypeId} : ∀ (vs : List Value) (o : Nat) {w : World} {cs : Array Value}, AJ w g t cs → AJ (w.setCells g o vs) g t (Go.Sort.setMany cs o vs)
 | [], _, _, _, h => h
 | v :: r, o, w, cs, h => by
  rw [World.setCells, Go.Sort.setMany];exact AJ.setCells r (o + 1) (h.set o v)
theorem wn : ∀ (vs : List Value) (o : Nat) (w : World), w.grownBy (w.setCells g o vs) (some g)
 | [], _, w => xF w _
 | v :: r, o, w => by
  rw [World.setCells];exact zJ (show w.grownBy (w.setCell ⟨g, o, none⟩ v) (some g) from ⟨rfl, rfl, rfl, by simp [World.setCell], fun i _ hi => Below.heap_setCell w ⟨g, o, none⟩ v i (fun e => hi (by rw [e]))⟩) (wn r (o + 1) _)
theorem pO (w : World) (ty : TypeId) (b o c : Nat) (hc : ∀ j, j < 3 → (w.cell? ⟨b, o + j, none⟩).isSome = true) (hf : ∀ j, j < 3 → w.frozen? ⟨b, o + j, none⟩ = false) :
 (Builtin.clear_ #[27] ty #[.slice (some ⟨b, o, none⟩) 1 c]).run prog w = .ok (.tuple #[]) (w.setCells b o [.int .i64 0, .int .i64 0, .int .i64 0]) := by
 have ht : prog.underlying 27 = some (.slice 87) := underlying27;have hv : ∀ w, (zeroValue 87).run prog w = .ok (.agg #[.int .i64 0, .int .i64 0, .int .i64 0]) w := zeroValue87
 have Ry : (Builtin.zeroCells (Value.agg #[.int .i64 0, .int .i64 0, .int .i64 0]).cells 1).toList = [.int .i64 0, .int .i64 0, .int .i64 0] := by kernel_rfl
 have hst := run_storeCells_cells (P := prog) b o [.int .i64 0, .int .i64 0, .int .i64 0] 0 w (by simpa using hc) (by simpa using hf) (by intro v hv'; simp at hv'; subst hv'; rfl);simp only [Nat.add_zero] at hst;simp [Builtin.clear_, run_underlying ht, hv, Ry, hst]
theorem nh (d p q d2 p2 q2 : Int) (w : World) : (binOp .eql 87 (.agg #[.int .i64 d, .int .i64 p, .int .i64 q]) (.agg #[.int .i64 d2, .int .i64 p2, .int .i64 q2])).run prog w = .ok (.bool (pi ⟨d, p, q⟩ ⟨d2, p2, q2⟩)) w := by
 have u3 := underlying3;have a3 := isAgg3;have z3 := sizeOf3;have hS : prog.underlying 87 = some (.struct (prog.fieldsOf 87)) := by kernel_rfl
 have hp : prog.stoodInHeld 87 = false := by kernel_rfl
 rw [run_eql_struct, show (10000 : Nat) = 9999 + 1 from rfl, run_equalIn_agg w 9999 87 _ _ hS hp];simp only [Program.fieldsOf, underlying87]
 go_simp
 by_cases h1 : d = d2 <;> by_cases h2 : p = p2 <;> by_cases h3 : q = q2 <;> simp [h1, h2, h3, pi]
def sW (k : Lk) : List Lk → Option Nat
 | [] => none
 | x :: l => if pi k x = true then some 0 else (sW k l).map (· + 1)
def iF : Option Nat → Int
 | some i => i
 | none => -1
theorem oo {k : Lk} : ∀ {ls : List Lk} {i : Nat}, (∀ x ∈ ls.take i, k ≠ x) → ls[i]? = some k → sW k ls = some i
 | [], _, _, h => by simp at h
 | x :: l, 0, _, h => by simp at h; rw [sW, if_pos ((xj _ _).2 h.symm)]
 | x :: l, i + 1, h1, h => by
  rw [sW, if_neg (fun e => h1 x (by simp) ((xj _ _).1 e)), oo (ls := l) (i := i) (fun y hy => h1 y (by simp [hy])) (by simpa using h)]; rfl
theorem qZ {k : Lk} : ∀ {ls : List Lk}, (∀ x ∈ ls, k ≠ x) → sW k ls = none
 | [], _ => rfl
 | x :: l, h => by rw [sW, if_neg (fun e => h x (by simp) ((xj _ _).1 e)), qZ (fun y hy => h y (by simp [hy]))]; rfl
theorem qa {ds : List Dv} : ∀ {ls : List Lk}, (∀ x ∈ ls, x.dev = d → x.pos = p) → sW ⟨d, p, q⟩ ls = wR d q ls
 | [], _ => rfl
 | x :: l, h => by
  rw [sW, wR, qa (ds := ds) (ls := l) (fun y hy => h y (by simp [hy]))];by_cases hx : x.dev = d ∧ x.key = q
  ·rw [if_pos hx, if_pos ((xj _ _).2 (by have := h x (by simp) hx.1; obtain ⟨a, b, c⟩ := x; simp at hx this ⊢; omega))]
  ·rw [if_neg hx, if_neg (fun e => hx (by rw [← (xj _ _).1 e]; exact ⟨rfl, rfl⟩))]
theorem lB : ∀ {ls : List Lk} {i : Nat}, wR d q ls = some i → i < ls.length
 | [], _, h => by cases h
 | x :: l, i, h => by
  rw [wR] at h;split at h
  ·injection h with h; subst h; simp
  ·rcases hi : wR d q l with _ | j
   ·rw [hi] at h; cases h
   ·rw [hi] at h;injection h with h;have := lB hi;subst h; simp; omega
theorem lu (h : ∀ x ∈ ls, x.dev ≠ d) : wR d q ls = none := by
 induction ls with
 | nil => rfl
 | cons x l ih => rw [wR, if_neg (fun e => h x (by simp) e.1), ih (fun y hy => h y (by simp [hy]))]; rfl
def IxR (w : World) (ls : List Lk) (k : Lk) (n gk : Nat) (_kv iv : Value) (wr : World) : Prop := ∃ i : Nat, iv = .int .i64 i ∧ i ≤ n ∧ gk = n - i ∧ Hid (∀ x ∈ ls.take i, k ≠ x) ∧ Hid (AJ wr w.heap.size 87 #[.int .i64 k.dev, .int .i64 k.pos, .int .i64 k.key]) ∧ Hid (bW w wr)
theorem lA (A : Option Addr) (n c B : Nat) (ls : List Lk) (d p q : Int) (w : World) (hs : Sl w B 3 A n c (ls.flatMap Lk.cells)) (hB : B ≤ w.heap.size) :
 Calls prog 123 #[.slice A n c, .agg #[.int .i64 d, .int .i64 p, .int .i64 q]] w fun e w' => e = .returned (.int .i64 (iF (sW ⟨d, p, q⟩ ls))) ∧ bW w w' := by
 have Ch := iD (hs.len (fun _ => rfl) (by decide)); have HS := iD hs;have hle := hs.le;have Bi : Hid (Below w.heap.size w (w.alloc (.cells #[.int .i64 d, .int .i64 p, .int .i64 q] 87))) := (Below.refl _ _).alloc lR _;have GY : Hid (AJ (w.alloc (.cells #[.int .i64 d, .int .i64 p, .int .i64 q] 87)) w.heap.size 87 #[.int .i64 d, .int .i64 p, .int .i64 q]) := AJ.new _ _ _;clear hs
 go_enter func123, ntmps123
 go_wp2_with fail
 generalize World.alloc _ _ = W at *
 go_loopg [5, 8] n (IxR w ls ⟨d, p, q⟩ n)
 case atStart => exact ⟨0, rfl, Nat.zero_le _, rfl, (fun x hx => by simp at hx), GY, Bi⟩
 case round =>
  clear Bi GY;obtain ⟨i, rfl, hi, rfl, hno, GR, AZ⟩ := hrel;by_cases hlt : i < n
  ·obtain ⟨b, off, d1, p1, q1, rfl, hb, hx, c0, c1, c2⟩ := (HS.below AZ hB).lock hlt;have HX := iD hx;have BK : Hid (wr.cell? ⟨w.heap.size, 0, none⟩ = some (.int .i64 d) ∧ wr.cell? ⟨w.heap.size, 1, none⟩ = some (.int .i64 p) ∧ wr.cell? ⟨w.heap.size, 2, none⟩ = some (.int .i64 q) ∧ wr.cell? ⟨b, off + i * 3, none⟩ = some (.int .i64 d1) ∧ wr.cell? ⟨b, off + i * 3 + 1, none⟩ = some (.int .i64 p1) ∧ wr.cell? ⟨b, off + i * 3 + 2, none⟩ = some (.int .i64 q1)) := ⟨GR.cell 0, GR.cell 1, GR.cell 2, c0, c1, c2⟩;have Vq := fun W => nh d p q d1 p1 q1 W
   clear hx c0 c1 c2;rcases hee : pi ⟨d, p, q⟩ ⟨d1, p1, q1⟩ with _ | _
   ·rw [hee] at Vq
    have HN : Hid (∀ x ∈ ls.take (i + 1), (⟨d, p, q⟩ : Lk) ≠ x) := fun x hx e => by
     rw [zO HX.out] at hx;rcases List.mem_append.1 hx with h | h
     ·exact hno x h e
     ·rw [List.mem_singleton.1 h] at e;rw [(xj _ _).2 e] at hee; cases hee
    clear hee;go_upto_region 4 with (fail);refine fX (fun W' => W'.cell? ⟨w.heap.size, 0, none⟩ = some (.int .i64 d) ∧ W'.cell? ⟨w.heap.size, 1, none⟩ = some (.int .i64 p) ∧ W'.cell? ⟨w.heap.size, 2, none⟩ = some (.int .i64 q) ∧ W'.cell? ⟨b, off + i * 3, none⟩ = some (.int .i64 d1) ∧ W'.cell? ⟨b, off + i * 3 + 1, none⟩ = some (.int .i64 p1) ∧ W'.cell? ⟨b, off + i * 3 + 2, none⟩ = some (.int .i64 q1)) [] ?_ fun AA => ?_
    ·exact BK.out
    try dsimp only at AA
    refine tk 0 11 (mf 6 1) AA ?_;refine tk 1 12 (mf 6 2) AA ?_;refine tk 2 13 (mf 6 3) AA ?_;refine tk 3 14 (mf 6 4) AA ?_;refine tk 4 15 (mf 6 5) AA ?_;refine tk 5 16 (mf 6 6) AA ?_;refine tK ?_;clear AA
    go_wp2_with fail
    go_roundg (n - (i + 1))
    ·exact ⟨i + 1, by go_num, by omega, rfl, HN, GR, AZ.drew⟩
    omega
   ·rw [hee] at Vq;have HR : Hid (sW ⟨d, p, q⟩ ls = some i) := oo hno (by rw [(xj _ _).1 hee]; exact HX);clear hee;go_upto_region 4 with (fail);refine fX (fun W' => W'.cell? ⟨w.heap.size, 0, none⟩ = some (.int .i64 d) ∧ W'.cell? ⟨w.heap.size, 1, none⟩ = some (.int .i64 p) ∧ W'.cell? ⟨w.heap.size, 2, none⟩ = some (.int .i64 q) ∧ W'.cell? ⟨b, off + i * 3, none⟩ = some (.int .i64 d1) ∧ W'.cell? ⟨b, off + i * 3 + 1, none⟩ = some (.int .i64 p1) ∧ W'.cell? ⟨b, off + i * 3 + 2, none⟩ = some (.int .i64 q1)) [] ?_ fun AA => ?_
    ·exact BK.out
    try dsimp only at AA
    refine tk 0 11 (mf 6 1) AA ?_;refine tk 1 12 (mf 6 2) AA ?_;refine tk 2 13 (mf 6 3) AA ?_;refine tk 3 14 (mf 6 4) AA ?_;refine tk 4 15 (mf 6 5) AA ?_;refine tk 5 16 (mf 6 6) AA ?_;refine tK ?_;clear AA
    go_wp2_with fail
    go_ret;exact ⟨zC (by rw [HR.out]; rfl), AZ.drew⟩
  ·obtain rfl : i = n := by omega
   have Ck : decide (i < i) = false := by simp
   have HR : Hid (sW ⟨d, p, q⟩ ls = none) := by
    have := hno.out;rw [List.take_of_length_le (by rw [Ch.out]; exact Nat.le_refl _)] at this;exact qZ this
   go_wp2_with fail
   go_ret;exact ⟨zC (by rw [HR.out]; rfl), AZ⟩
theorem pt {P : Program} {ops : Array Oper} {o : Oper} {a : Act} {K : Act → World → Prop} {Q : Exit → Act → World → Prop} {E : Prop} {d : Option Tmp} (hd : o.dst = d)
 (hg : o.guard = none) (s x : Operand) (t : TypeId) (hop : o.op = Op.call { callee := Callee.builtin Builtin.append, args := #[s, x], argTypes := #[t, t] })
 (e : TypeId) (i : TypeInfo) (size : Nat) (h1 : P.underlying t = some (.slice e)) (h2 : P.info? e = some i) (h4 : i.size = size)
 (b off n cap : Nat) (hs : a.eval s = .slice (some ⟨b, off, none⟩) n cap)
 (ad : Addr) (m c : Nat) (news : List Value) (hx : a.eval x = .slice (some ad) m c) (hn : news.length = m * size) (hc : ∀ j u, news[j]? = some u → w.cell? (ad.add j) = some u) (Ae : ∀ u ∈ news, u.oneCell' = true)
 (hroom : n + m ≤ cap) (SH : ∀ j, j < news.length → (w.cell? ⟨b, off + n * size + j, none⟩).isSome = true ∧ w.frozen? ⟨b, off + n * size + j, none⟩ = false)
 (hK : K (a.put d (.slice (some ⟨b, off, none⟩) (n + m) cap)) (w.setCells b (off + n * size) news)) :
 if Region.wanted o (yielded ops a.tmps) = true then Oper.wp P o a w K Q else E := by
 subst hd;exact step_append_room hg s x t hop e i size h1 h2 h4 b off n cap hs ad m c news hx hn hc Ae hroom SH hK
theorem lV {l : List Lk} {L : List Value} {i : Nat} (h : L.take (n * 3) = l.flatMap Lk.cells) (hl : l.length = n) (hi : i ≤ n) : L.take (i * 3) = (l.take i).flatMap Lk.cells := by
 have h1 : L.take (i * 3) = (L.take (n * 3)).take (i * 3) := by rw [List.take_take, Nat.min_eq_left (Nat.mul_le_mul_right _ hi)]
 rw [h1, h];have e := congrArg (List.flatMap Lk.cells) (List.take_append_drop i l);rw [List.flatMap_append] at e;rw [← e];have hlen : ((l.take i).flatMap Lk.cells).length = i * 3 := by rw [yF (size := 3) (fun _ => rfl), List.length_take, Nat.min_eq_left (by omega)]
 rw [← hlen, List.take_left]
theorem kB (A : Option Addr) (n c base i : Nat) (ls : List Lk) (w : World) (h : ze w base A n c ls) (hi : i < n) (hn : n ≤ 1000000) :
 Calls prog 124 #[.slice A n c, .int .i64 (i : Int), .int .i64 ((i : Int) + 1)] w fun e w' => e = .returned (.slice A (n - 1) c) ∧ Hid (ze w' base A (n - 1) c (ls.eraseIdx i)) ∧ Hid (w.grownBy w' (Value.slice A n c).ownBlock) := by
 obtain ⟨m, rfl⟩ : ∃ m, n = m + 1 := ⟨n - 1, by omega⟩
 have Jh : i + (m - i) = m := by omega
 have hl := h.len;have hle := h.sl.le;have AV := iD (h.sl.dropK (k := i + 1) (fun _ => rfl) (by decide) (by omega));obtain ⟨i0, z, Ll, NZ, AW, Fs, Ry⟩ := (yO).ex;rcases h.2 with ⟨_, h1⟩ | ⟨g, cap, cur, hv, hb, hh, Ir, hm, hs, ht⟩
 ·omega
 injection hv with h1 h2 h3;subst h1 h3;obtain ⟨news, Gn⟩ := eX ((ls.drop (i + 1)).flatMap Lk.cells);have hlen : news.length = (m - i) * 3 := by rw [Gn, yF (size := 3) (fun _ => rfl), List.length_drop, hl, show m + 1 - (i + 1) = m - i by omega]
 obtain ⟨ad, had⟩ : ∃ ad, sX (some (⟨g, 0, none⟩ : Addr)) c (i + 1) 3 = some ad := by unfold sX; split <;> exact ⟨_, rfl⟩
 have LY : Hid (∀ W, (Instr.sliceAt 27 (.slice (some ⟨g, 0, none⟩) (m + 1) c) (some (.int .i64 ((i : Int) + 1))) none none).run prog W = .ok (.slice (some ad) (m - i) (c - (i + 1))) W) := fun W => by
  have := vC W (some ⟨g, 0, none⟩) (m + 1) c (i + 1) (by omega);rw [had, show m + 1 - (i + 1) = m - i by omega] at this;rw [← this]; rfl
 have VB : Hid (AJ w g 87 cur) := hh
 have AH : Hid (∀ j u, news[j]? = some u → w.drew.cell? (ad.add j) = some u) := by
  intro j u hu;have hj := (List.getElem?_eq_some_iff.1 hu).1;obtain ⟨b, off, e, _, hc⟩ := AV.2.2.2.2 (by rw [hlen] at hj; omega);rw [had] at e; injection e with e; subst e
  rw [xP]; exact hc j u (by rw [← Gn]; exact hu)
 have AK : Hid (∀ u ∈ news, u.oneCell' = true) := by rw [Gn]; exact yR _
 have Hg : Hid (∀ j, j < news.length → (w.drew.cell? ⟨g, 0 + i * 3 + j, none⟩).isSome = true ∧ w.drew.frozen? ⟨g, 0 + i * 3 + j, none⟩ = false) := by
  intro j hj;refine ⟨?_, VB.frozen _⟩;have := VB.cell (0 + i * 3 + j)
  show (w.cell? _).isSome = true
  rw [this];have : 0 + i * 3 + j < cur.size := by rw [hs]; omega
  rw [Array.getElem?_eq_getElem this]; rfl
 obtain ⟨W1, RD⟩ := eX (w.drew.setCells g (0 + i * 3) news);have Af := iD RD;have La : Hid (AJ W1 g 87 (Go.Sort.setMany cur (0 + i * 3) news)) := by unfold Hid; rw [RD]; exact AJ.setCells news _ (show AJ w.drew g _ _ from VB)
 have CF : Hid (w.grownBy W1 (some g)) := by unfold Hid; rw [RD]; exact zJ (rV (xF w _)) (wn news _ w.drew)
 have Jl : ∀ ty, (Builtin.clear_ #[27] ty #[.slice (some ⟨g, m * 3, none⟩) 1 (c - m)]).run prog W1 = .ok (.tuple #[]) (W1.setCells g (m * 3) [.int .i64 0, .int .i64 0, .int .i64 0]) := fun ty => pO W1 ty g _ _ (fun j hj => by
  have := La.cell (m * 3 + j);rw [this];have : m * 3 + j < (Go.Sort.setMany cur (0 + i * 3) news).size := by rw [Go.Sort.size_setMany, hs]; omega
  rw [Array.getElem?_eq_getElem this]; rfl) (fun j _ => La.frozen _)
 have Dg : Hid (ze (W1.setCells g (m * 3) [.int .i64 0, .int .i64 0, .int .i64 0]) base (some ⟨g, 0, none⟩) m c (ls.eraseIdx i)) := by
  have AQ := AJ.setCells [.int .i64 0, .int .i64 0, .int .i64 0] (m * 3) La.out;refine ⟨by rw [yF (size := 3) (fun _ => rfl), List.length_eraseIdx, if_pos (by omega), hl, Nat.add_sub_cancel], .inr ⟨g, c, _, rfl, hb, AQ, by omega, hm, by rw [Go.Sort.size_setMany, Go.Sort.size_setMany, hs], ?_⟩⟩;rw [vT _ _ _ (by rw [Go.Sort.size_setMany, hs]; simp; omega), vT _ _ _ (by rw [hs, hlen]; omega), Nat.zero_add];have e1 : (cur.toList.take (i * 3)).length = i * 3 := by rw [List.length_take, Nat.min_eq_left]; simp [hs]; omega
  have e2 : (cur.toList.take (i * 3) ++ news).length = m * 3 := by rw [List.length_append, e1, hlen]; omega
  have e3 : ((cur.toList.take (i * 3) ++ news ++ cur.toList.drop (i * 3 + news.length)).take (m * 3)) = cur.toList.take (i * 3) ++ news := by rw [← e2, List.take_left]
  rw [e3, List.append_assoc, ← e2, List.take_left, lV ht hl (by omega), Gn, ← List.flatMap_append, List.eraseIdx_eq_take_drop_succ]
 have Ag : Hid (w.grownBy (W1.setCells g (m * 3) [.int .i64 0, .int .i64 0, .int .i64 0]) (some g)) := zJ CF (wn _ _ _);have hi0' : prog.info? 87 = some i0 := Ll;have q1 : ((i : Int) == (i : Int) + 1) = false := by simp; omega
 have Ah : IntKind.i64.wrap ((i : Int) + 1) = (i : Int) + 1 := IntWalk.i64_in _ (by omega);have Aa : (m + 1 : Nat) ≤ c := Ir;have PO : i ≤ c := by omega
 clear h hh ht hs NZ Fs Ry AV had Gn RD VB La CF hl hb hm
 go_enter func124, ntmps124
 go_upto_region 5 with (fail);refine fX (fun _ => True) [] ?_ fun AA => ?_
 ·exact trivial
 try dsimp only at AA
 refine tk 0 20 (mf 8 1) AA ?_;refine tk 1 21 (mf 8 2) AA ?_;refine tk 2 22 (mf 8 3) AA ?_;refine tk 3 23 (mf 8 4) AA ?_;refine tk 4 24 (mf 8 5) AA ?_;refine ty 5 25 (mf 8 6) AA (y := by intro w AR; have hcut := LY.out; go_simp; try with_reducible rfl) (h := ?_);refine tb 6 (mf 8 7) fun K hK => ?_
 (refine pt (d := some 26) (by rfl) (by rfl) (.tmp 22) (.tmp 25) 27 (by rfl) 87 i0 3 underlying27 hi0' AW g 0 i c (by rfl) ad (m - i) (c - (i + 1)) news (by rfl) hlen AH AK (by omega) Hg ?_; rw [← Af.out, Jh])
 refine hK _ _ (fun _ => trivial) fun p => (fun AA => ?_) (p rfl)
 clear p hK K;(try dsimp only at AA);refine tk 7 0 (mf 8 8) AA ?_;refine tK ?_;clear AA
 go_wp2_with fail
 go_ret;exact ⟨rfl, Dg, Ag⟩
def ta (w : World) (ns : List Nd) (ds : List Dv) (ls : List Lk) (d q : Int) (e : Ending) (w' : World) : Prop :=
 (zH ns ds ls ≠ 0 ∧ e = .returned (.tuple #[.slice none 0 0, .int .i64 (zH ns ds ls)]) ∨ zH ns ds ls = 0 ∧ wR d q ls = none ∧ e = .returned (.tuple #[.slice none 0 0, .int .i64 15]) ∨
  zH ns ds ls = 0 ∧ ∃ (i : Nat) (A : Option Addr) (c : Nat), wR d q ls = some i ∧ e = .returned (.tuple #[.slice A (ls.length - 1) c, .int .i64 0]) ∧ Hid (ze w' w.heap.size A (ls.length - 1) c (ls.eraseIdx i))) ∧ Hid (Below w.heap.size w w')
theorem og (An Ad Al : Option Addr) (nn cn nd cd c Bn Bd Bl : Nat) (ns : List Nd) (ds : List Dv) (ls : List Lk) (d q : Int) (w : World) (Ie : yr w) (hn : Sl w Bn 3 An nn cn (ns.flatMap Nd.cells)) (hd : Sl w Bd 5 Ad nd cd (ds.flatMap Dv.cells)) (hs : Sl w Bl 3 Al ls.length c (ls.flatMap Lk.cells)) (Ce : Bn ≤ w.heap.size) (BN : Bd ≤ w.heap.size) (Df : Bl ≤ w.heap.size)
 (Bj : FO ns) (Bc : GH ds) :
 Calls prog 93 #[.agg #[.slice An nn cn, .slice Ad nd cd], .slice Al ls.length c, .int .i64 d, .int .i64 q] w (ta w ns ds ls d q) := by
 have HS := iD hs;have Ar : Hid (sG w #[.slice An nn cn, .slice Ad nd cd] (w.alloc (.cells #[.slice An nn cn, .slice Ad nd cd] 26))) := ⟨AJ.new _ _ _, (Below.refl _ _).alloc lR _⟩;have Cy := iD (uo An Ad Al nn cn nd cd ls.length c Bn Bd Bl ns ds ls (w.alloc (.cells #[.slice An nn cn, .slice Ad nd cd] 26)) (Ie.alloc _) (hn.below Ar.bl Ce) (hd.below Ar.bl BN) (hs.below Ar.bl Df) (by simp; omega) (by simp; omega) (by simp; omega) Bj Bc);clear hn hd hs Bj Bc Ie
 go_enter func93, ntmps93
 go_wp2_with fail
 generalize World.alloc _ _ = W at *;refine Cy.mono ?_;rintro e w1 ⟨rfl, AX⟩;have BD := iD (Ar.later AX);clear AX Ar Cy;by_cases h0 : zH ns ds ls = 0; rotate_left
 ·have q0 : (zH ns ds ls != 0) = true := by simpa using h0
  have JF := iD h0;clear h0
  go_wp2_with fail
  go_ret2;exact ⟨.inl ⟨JF, rfl⟩, BD.bl⟩
 have HG := iD (yW h0);have HZ := iD h0;rw [h0];clear h0;have Fj := BD.bl.size
 go_wp2_with fail
 refine (mG Al ls.length c Bl ls d w1 (HS.below BD.bl Df) (by omega)).mono ?_;rintro e w2 ⟨rfl, AQ⟩;have Db := iD (BD.later AQ);clear AQ BD Fj;have GD := Db.bl.size;unfold oh;rcases hl : wL ls d with _ | p
 ·have HN : Hid (wR d q ls = none) := lu (uD.1 hl);clear hl;simp only [Option.getD_none, Option.isSome_none]
  go_wp2_with fail
  refine (lA Al ls.length c Bl ls d 0 q w2 (HS.below Db.bl Df) (by omega)).mono ?_;rintro e w3 ⟨rfl, BJ⟩;have EG := iD (Db.later BJ);clear BJ Db;generalize iF _ = r
  go_wp2_with fail
  go_ret2;exact ⟨.inr (.inl ⟨HZ, HN, rfl⟩), EG.bl⟩
 ·have HI : Hid (sW ⟨d, p, q⟩ ls = wR d q ls) := qa (ds := ds) fun x hx GL => by
   have := ix HG hx;rw [GL, hl] at this;injection this with this;exact this.symm
  clear hl;simp only [Option.getD_some, Option.isSome_some]
  go_wp2_with fail
  refine (lA Al ls.length c Bl ls d p q w2 (HS.below Db.bl Df) (by omega)).mono ?_;rintro e w3 ⟨rfl, BJ⟩;have EG := iD (Db.later BJ);clear BJ Db GD;rw [HI.out];rcases hi : wR d q ls with _ | i
  ·have HN := iD hi;clear hi;simp only [iF]
   go_wp2_with fail
   go_ret2;exact ⟨.inr (.inl ⟨HZ, HN, rfl⟩), EG.bl⟩
  ·have Ac := lB hi;have HN := iD hi;have JO := EG.bl.size;have El := HG.1;clear hi;simp only [iF];have qi : decide ((i : Int) < 0) = false := by simp
   go_wp2_with fail
   refine (vE Al ls.length c Bl ls w3 (HS.below EG.bl Df) (by omega) (by omega)).mono ?_;rintro e w4 ⟨A4, c4, rfl, DN, BX⟩;have BP : Hid (ze w4 w.heap.size A4 ls.length c4 ls) := World.ownsRow.mono DN (by omega);have Bh := iD (EG.later BX);clear DN BX EG
   go_wp2_with fail
   refine (kB A4 ls.length c4 w.heap.size i ls w4 BP Ac (by omega)).mono ?_;rintro e w5 ⟨rfl, Ev, JQ⟩
   go_wp2_with fail
   go_ret2;refine ⟨.inr (.inr ⟨HZ, i, A4, c4, HN, rfl, Ev⟩), ?_⟩;have h1 := Bh.bl;exact h1.trans ⟨JQ.os, JQ.tape, JQ.output, JQ.size, fun t ht => JQ.block t (by have := h1.size; omega) (fun e => by have := (BP.lt t e.symm).1; omega)⟩
end Go.Proofs.YtddddlhgaeameaaGreatDoor
