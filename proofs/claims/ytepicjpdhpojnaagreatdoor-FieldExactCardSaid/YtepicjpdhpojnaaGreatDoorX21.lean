import Derived.Test.YtepicjpdhpojnaaGreatDoorX20
import Derived.ScopeJumps
import Derived.WalkMore
set_option maxRecDepth 100000
set_option maxHeartbeats 8000000
namespace Go.Proofs.YtepicjpdhpojnaaGreatDoor
section
open Go.RowKit
theorem uY {w w' : World} {l : List Int} {A : Option Addr} {n c : Nat} (hl : l.length = n) (h : zQ w' w.heap.size A n c l) (hb : Below w.heap.size w w') : ul w l (.returned (.slice A n c)) w' := by subst hl; exact ⟨A, c, rfl, h, hb⟩
structure ZhI (nn : Nat) (ds : List Dv) (gs z : List Int) (out : List Bool) : Prop where
 len : out.length = nn
 sound : ∀ v, zZ out v → Rgn ds gs z v
 base : ∀ v ∈ z, zZ out v
def okD (ds : List Dv) (gs : List Int) (out : List Bool) (j : Nat) : Prop := ∀ x, ds[j]? = some x → zo x.kind = true → yx gs j = false → (zZ out x.a ↔ zZ out x.b)
theorem ji {x : Dv} (hj : zo x.kind = true) : yy x x.a = x.b := by unfold yy; rw [if_neg (by rw [hj]; simp), if_pos rfl]
theorem jh {x : Dv} (hj : zo x.kind = true) (hne : x.b ≠ x.a) : yy x x.b = x.a := by unfold yy; rw [if_neg (by rw [hj]; simp), if_neg (fun e => hne e.symm), if_pos rfl]
theorem mq {x : Dv} {u : Int} (h : 0 ≤ yy x u) : zo x.kind = true ∧ (u = x.a ∧ yy x u = x.b ∨ u = x.b ∧ yy x u = x.a) := by
 unfold yy at h ⊢
 split at h
 ·omega
 next hj =>
 have hj : zo x.kind = true := by simpa using hj
 rw [if_neg (by rw [hj]; simp)]
 split at h
 ·next e => exact ⟨hj, .inl ⟨e.symm, by rw [if_pos e]⟩⟩
 next e =>
 split at h
 ·next e2 => exact ⟨hj, .inr ⟨e2.symm, by rw [if_neg e, if_pos e2]⟩⟩
 ·omega
theorem ZhI.final {nn : Nat} {ds : List Dv} {gs z : List Int} {out : List Bool} (h : ZhI nn ds gs z out) (hok : ∀ j, okD ds gs out j) (v : Int) : zZ out v ↔ Rgn ds gs z v := by
 refine ⟨h.sound v, fun hr => ?_⟩
 induction hr with
 | base hv => exact h.base _ hv
 | step _ _ hx hU h0 ih =>
  rename_i u i x _ _
  obtain ⟨hj, ⟨e, e2⟩ | ⟨e, e2⟩⟩ := mq h0
  ·rw [e2]; rw [e] at ih
   exact (hok i x hx hj (by simpa using hU)).1 ih
  ·rw [e2]; rw [e] at ih
   exact (hok i x hx hj (by simpa using hU)).2 ih
theorem ZhI.mark {nn : Nat} {ds : List Dv} {gs z : List Int} {out out2 : List Bool} {j a b : Nat} {x : Dv} (h : ZhI nn ds gs z out) (hx : ds[j]? = some x) (hj : zo x.kind = true) (hg : yx gs j = false) (ha : x.a = a) (hb : x.b = b) (hne : b ≠ a) (hd : zZ out a ∨ zZ out b) (hl : out2.length = nn) (h2 : ∀ v, zZ out2 v ↔ v = a ∨ v = b ∨ zZ out v) : ZhI nn ds gs z out2 := by
 have h1 : yy x a = b := by rw [← ha, ji hj, hb]
 have h3 : yy x b = a := by rw [← hb, jh hj (by rw [ha, hb]; omega), ha]
 have hab : Rgn ds gs z a ∧ Rgn ds gs z b := by
  rcases hd with hm | hm
  ·have := h.sound _ hm
   refine ⟨this, ?_⟩
   have := Rch.step (x := x) (i := j) this rfl hx (by simpa using hg) (by rw [h1]; omega)
   rwa [h1] at this
  ·have := h.sound _ hm
   refine ⟨?_, this⟩
   have := Rch.step (x := x) (i := j) this rfl hx (by simpa using hg) (by rw [h3]; omega)
   rwa [h3] at this
 refine ⟨hl, fun v hv => ?_, fun v hv => (h2 v).2 (.inr (.inr (h.base v hv)))⟩
 rcases (h2 v).1 hv with rfl | rfl | hv
 ·exact hab.1
 ·exact hab.2
 ·exact h.sound v hv
structure ZhM (w : World) (N : Array Value) (go nn : Nat) (out : List Bool) (wr : World) : Prop where
 bn : Blk wr w.heap.size 30 N
 ob : xM wr (w.heap.size + 1) (some ⟨go, 0, none⟩) nn nn out
 bl : Below w.heap.size w wr
section
variable {w wr wr' : World} {N : Array Value} {go nn : Nat} {out : List Bool}
theorem ZhM.later (h : ZhM w N go nn out wr) (hb : Below wr.heap.size wr wr') : ZhM w N go nn out wr' := ⟨h.bn.below hb h.bn.lt, h.ob.later hb, h.bl.trans (hb.mono h.bl.size)⟩
theorem ZhM.put (h : ZhM w N go nn out wr) {k : Nat} (hk : k < nn) (y : Bool) : ZhM w N go nn (out.set k y) (wr.setCell ⟨go, k, none⟩ (.bool y)) := by
 obtain ⟨g, x, e, h1, h2, hx, hc, hf, hst⟩ := h.ob.at hk
 injection e with e; injection e with e; subst e
 exact ⟨h.bn.far (by simp; omega) _, hst y, h.bl.setCell (by simp; omega) _⟩
theorem ZhM.cell (h : ZhM w N go nn out wr) {k : Nat} (hk : k < nn) : ∃ x, out[k]? = some x ∧ wr.cell? ⟨go, k, none⟩ = some (.bool x) ∧ wr.frozen? ⟨go, k, none⟩ = false := by
 obtain ⟨g, x, e, h1, h2, hx, hc, hf, hst⟩ := h.ob.at hk
 injection e with e; injection e with e; subst e
 exact ⟨x, hx, hc, hf⟩
theorem ZhM.ge (h : ZhM w N go nn out wr) (hn : 0 < nn) : w.heap.size < go := by
 obtain ⟨g, x, e, h1, h2, hx, hc, hf, hst⟩ := h.ob.at hn
 injection e with e; injection e with e; subst e
 omega
end
def Zh1 (w : World) (N : Array Value) (go nn : Nat) (z : List Int) (n gk : Nat) (iv : Value) (wr : World) : Prop := ∃ (i : Nat) (out : List Bool), iv = .int .i64 i ∧ i ≤ n ∧ gk = n - i ∧ Hid (ZhM w N go nn out wr) ∧ Hid (∀ v, zZ out v ↔ v ∈ z.take i)
def Zh2 (w : World) (N : Array Value) (go nn : Nat) (ds : List Dv) (gs z : List Int) (gk : Nat) (cv : Value) (wr : World) : Prop := ∃ (ch : Bool) (out : List Bool), cv = .bool ch ∧ gk = (if ch = true then zx out + 1 else 0) ∧ Hid (ZhM w N go nn out wr) ∧ Hid (ZhI nn ds gs z out) ∧ Hid (ch = false → ∀ j, okD ds gs out j)
def Zh3 (w : World) (N : Array Value) (go nn : Nat) (ds : List Dv) (gs z : List Int) (out0 : List Bool) (n gk : Nat) (cv iv : Value) (wr : World) : Prop := ∃ (i : Nat) (ch : Bool) (out : List Bool), cv = .bool ch ∧ iv = .int .i64 i ∧ i ≤ n ∧ gk = n - i ∧ Hid (ZhM w N go nn out wr) ∧ Hid (ZhI nn ds gs z out) ∧ Hid (ch = false → out = out0 ∧ ∀ j, j < i → okD ds gs out j) ∧ Hid (ch = true → zx out < zx out0)
theorem yP {out : List Bool} {k : Nat} : zZ out (k : Int) ↔ out[k]? = some true := ⟨fun h => by simpa using h.2, fun h => ⟨by omega, by simpa using h⟩⟩
theorem m6 {out : List Bool} {a b : Nat} (ha : a < out.length) (hb : b < out.length) : (∀ v, zZ ((out.set a true).set b true) v ↔ v = a ∨ v = b ∨ zZ out v) ∧ (∀ v, zZ ((out.set b true).set a true) v ↔ v = a ∨ v = b ∨ zZ out v) := by
 constructor
 ·intro v; rw [y7 (by rw [List.length_set]; exact hb), y7 ha]; exact ⟨fun h => by rcases h with h | h | h <;> simp [h], fun h => by rcases h with h | h | h <;> simp [h]⟩
 ·intro v; rw [y7 (by rw [List.length_set]; exact ha), y7 hb]
theorem m9 {out : List Bool} {a b : Nat} {va vb : Bool} (hva : out[a]? = some va) (hvb : out[b]? = some vb) (hne : va ≠ vb) (hab : a ≠ b) : zx ((out.set a true).set b true) < zx out ∧ zx ((out.set b true).set a true) < zx out := by
 have same : ∀ {o : List Bool} {k : Nat}, o[k]? = some true → o.set k true = o := fun {o k} h => by
  refine List.ext_getElem? fun i => ?_
  by_cases e : k = i
  ·subst e; rw [List.getElem?_set_self (List.getElem?_eq_some_iff.1 h).1, h]
  ·rw [List.getElem?_set_ne e]
 have main : ∀ {o : List Bool} {p q : Nat}, p ≠ q → o[p]? = some true → o[q]? = some false → zx ((o.set p true).set q true) < zx o ∧ zx ((o.set q true).set p true) < zx o := fun {o p q} hpq h1 h2 => by
  have hc := vH h2
  refine ⟨by rw [same h1]; omega, ?_⟩
  rw [same (k := p) (by rw [List.getElem?_set_ne (Ne.symm hpq)]; exact h1)]
  omega
 cases va <;> cases vb
 ·exact absurd rfl hne
 ·exact (main (Ne.symm hab) hvb hva).symm
 ·exact main hab hva hvb
 ·exact absurd rfl hne
theorem nu (An Ad Az Ag : Option Addr) (nn cn nd cd n c ng cg : Nat) (ds : List Dv) (z gs : List Int) (w : World) (hd : Sl w w.heap.size 5 Ad nd cd (ds.flatMap Dv.cells)) (hz : Sl w w.heap.size 1 Az n c (zK z)) (hg : Sl w w.heap.size 1 Ag ng cg (zK gs))
 (hnn : nn ≤ 10000) (hends : xG nn ds) (hneq : ∀ x ∈ ds, zo x.kind = true → x.b ≠ x.a) (hsrc : ∀ v ∈ z, 0 ≤ v ∧ v < nn) :
 Calls Tryz.prog 120 #[.agg #[.slice An nn cn, .slice Ad nd cd], .slice Az n c, .slice Ag ng cg] w (ul w (yC nn (Rgn ds gs z))) := by
 have HLD := iD (hd.len (fun _ => rfl) (by decide)); have HLZ := iD (hz.len (fun _ => rfl) (by decide))
 have hdl := hd.le; have hzl := hz.le
 have HD := iD hd; have HZ := iD hz; have HG := iD hg; have HE := iD hends; have HNE := iD hneq; have HSR := iD hsrc
 clear hd hz hg hends hneq hsrc
 have hmk := uT nn (by omega) (w.alloc (.cells #[.slice An nn cn, .slice Ad nd cd] 30))
 have hsz1 : (w.alloc (.cells #[.slice An nn cn, .slice Ad nd cd] 30)).heap.size = w.heap.size + 1 := by simp
 have HST : Hid (ZhM w #[.slice An nn cn, .slice Ad nd cd] (w.heap.size + 1) nn (List.replicate nn false) ((w.alloc (.cells #[.slice An nn cn, .slice Ad nd cd] 30)).alloc (.cells (xR (List.replicate nn false)).toArray 4))) := by
  refine ⟨(Blk.new w _ _).alloc _, ?_, ((Below.refl _ _).alloc lR _).alloc (by simp) _⟩
  have := sZ (w := w.alloc (.cells #[.slice An nn cn, .slice Ad nd cd] 30)) (base := w.heap.size + 1) (n := nn) (by simp) (by omega)
  rw [hsz1] at this
  exact this
 rw [hsz1] at hmk
 clear hsz1
 have k0 : (w.alloc (.cells #[.slice An nn cn, .slice Ad nd cd] 30)).cell? ⟨w.heap.size, 0, none⟩ = some (.slice An nn cn) := (Blk.new w _ _).cell 0
 go_enter Tryz.func120, Tryz.ntmps120
 go_upto_region 2 with (fail)
 clear hmk k0
 obtain ⟨go, hgo⟩ : ∃ go, go = w.heap.size + 1 := ⟨_, rfl⟩
 rw [← hgo] at HST ⊢
 clear hgo
 generalize World.alloc (World.alloc _ _) _ = W at *
 go_wp2_with fail
 go_loopg [8] n (Zh1 w #[.slice An nn cn, .slice Ad nd cd] go nn z n)
 case atStart => exact ⟨0, _, rfl, Nat.zero_le _, rfl, HST, fun v => ⟨fun h => absurd h (tT nn v), fun h => by simp at h⟩⟩
 case round =>
  clear HST
  obtain ⟨i, out, rfl, hi, rfl, hM, hI⟩ := hrel
  have HOL := iD hM.out.ob.len
  by_cases hlt : i < n
  ·obtain ⟨bz, oz, v, rfl, hbz, hx, hc⟩ := (HZ.out.below hM.out.bl lR).at1 hlt
   have hvr := HSR.out v (List.mem_of_getElem? hx)
   obtain ⟨v, rfl⟩ := Int.eq_ofNat_of_zero_le hvr.1
   have hvn : v < nn := by omega
   obtain ⟨x, -, hcell, hfz⟩ := hM.out.cell hvn
   have HM2 := iD (hM.out.put hvn true)
   have HI2 : Hid (∀ u, zZ (out.set v true) u ↔ u ∈ z.take (i + 1)) := fun u => by
    rw [y7 (by rw [HOL.out]; exact hvn), hI.out u, zt hx, List.mem_append, List.mem_singleton]
    exact ⟨fun h => h.symm, fun h => h.symm⟩
   clear hx hvr hM hI
   go_wp2_with fail
   go_roundg (n - (i + 1))
   case rel => exact ⟨i + 1, _, by go_num, by omega, rfl, HM2, HI2⟩
   case measure => omega
  ·obtain rfl : i = n := by omega
   have hii : decide (i < i) = false := by simp
   have HZI : Hid (ZhI nn ds gs z out) := ⟨HOL.out, fun v hv => Rch.base (by have := (hI.out v).1 hv; exact List.mem_of_mem_take this), fun v hv => (hI.out v).2 (by rw [List.take_of_length_le (by rw [HLZ.out]; exact Nat.le_refl _)]; exact hv)⟩
   clear hI
   go_wp2_with fail
   go_loopg [9] (zx out + 1) (Zh2 w #[.slice An nn cn, .slice Ad nd cd] go nn ds gs z)
   case atStart => exact ⟨true, out, rfl, rfl, hM, HZI, fun e => by cases e⟩
   case round =>
    clear hM HZI hii HOL
    obtain ⟨ch, oz, rfl, rfl, hM, hI, hok⟩ := hrel
    rcases ch with _ | _
    ·have HFIN : Hid (∀ v : Nat, v < nn → (oz[v]? = some true ↔ Rgn ds gs z v)) := fun v _ => yP.symm.trans (hI.out.final (hok.out rfl) v)
     obtain ⟨R, hRR⟩ : ∃ R, R = Rgn ds gs z := ⟨_, rfl⟩
     rw [← hRR] at HFIN
     have HRR := iD hRR
     clear hRR hok hI
     obtain ⟨w2, hw2⟩ : ∃ x, x = wr := ⟨_, rfl⟩
     rw [← hw2] at hM ⊢
     have hz2 := hM.out.bl.size
     have HMW := iD hM.out
     clear hw2 hM
     go_wp2_with fail
     go_loopg [12, 13] nn (ZrR w2 R nn)
     case atStart => exact ⟨0, 0, 0, none, rfl, rfl, Nat.zero_le _, rfl, Nat.le_refl _, World.ownsRow_nil _ _ _ _, Below.refl _ _⟩
     case round =>
      obtain ⟨i, m, co, Ao, rfl, rfl, hi, rfl, hmi, hI, hb⟩ := hrel
      have hM := iD (HMW.out.later hb.out)
      by_cases hlt : i < nn
      ·obtain ⟨x, hx, hc, -⟩ := hM.out.cell hlt
       have HX := iD hx
       clear hx
       rcases x with _ | _
       ·have HI2 : Hid (zQ wr w2.heap.size Ao m co (yC (i + 1) R)) := by
         unfold Hid
         rw [qo (fun h => by have := (HFIN.out i hlt).2 h; rw [HX.out] at this; cases this)]
         exact hI.out
        go_wp2_with fail
        go_roundg (nn - (i + 1))
        case rel => exact ⟨i + 1, m, co, Ao, rfl, by go_num, by omega, rfl, by omega, HI2, hb⟩
        case measure => omega
       ·have HT : Hid (yC (i + 1) R = yC i R ++ [(i : Int)]) := tR ((HFIN.out i hlt).1 HX.out)
        have HI3 := iD hI.out
        have hbz := hb.out.size
        clear hI
        go_wp2_with (at_builtin; go_must (refine zW rfl (.tmp 83) (.tmp 85) rfl yX (by rfl) (HI3.out.alloc _) (by rfl) (Sl.newest (n := 1) (by simp) (by rfl) (by decide)) (by simp [Value.oneCell']) (by omega) (by omega) (by have := hb.out.size; simp; omega) ?_; intro A2 co2 w5 hown5 hgr5 hat5; have HO5 := iD hown5; have HB5 : Hid (Below w2.heap.size w2 w5) := (hb.out.alloc hb.out.size _).trans ⟨hgr5.os, hgr5.tape, hgr5.output, hgr5.size, fun t ht => hgr5.block t (by have := hb.out.size; simp; omega) (fun e => by have := (HI3.out.lt t e.symm).1; omega)⟩; clear hown5 hgr5 hat5))
        have HO6 : Hid (zQ w5 w2.heap.size A2 (m + 1) co2 (yC (i + 1) R)) := by
         unfold Hid
         rw [HT.out]
         unfold zQ
         rw [zw]
         exact HO5.out
        go_roundg (nn - (i + 1))
        case rel => exact ⟨i + 1, m + 1, co2, A2, rfl, by go_num, by omega, rfl, by omega, HO6, HB5⟩
        case measure => omega
      ·obtain rfl : i = nn := by omega
       have hii : decide (i < i) = false := by simp
       go_wp2_with fail
       go_ret
       rw [HRR.out] at hI
       exact uY hI.out.len (hI.out.mono hz2) (HMW.out.bl.trans (hb.out.mono hz2))
    clear hok
    go_wp2_with fail
    go_loopg [9, 10] nd (Zh3 w #[.slice An nn cn, .slice Ad nd cd] go nn ds gs z oz nd)
    case atStart => exact ⟨0, false, oz, rfl, rfl, Nat.zero_le _, rfl, hM, hI, fun _ => ⟨rfl, fun j hj => by omega⟩, fun e => by cases e⟩
    case round =>
     clear hM hI
     obtain ⟨j, ch, out, rfl, rfl, hj, rfl, hM, hI, hno, hyes⟩ := hrel
     have k1 : wr.cell? ⟨w.heap.size, 1, none⟩ = some (.slice Ad nd cd) := hM.out.bn.cell 1
     by_cases hlt : j < nd; rotate_left
     ·obtain rfl : j = nd := by omega
      have hii : decide (j < j) = false := by simp
      have HOKA : Hid (ch = false → ∀ q, okD ds gs out q) := fun e q => by
       by_cases hq : q < j
       ·exact (hno.out e).2 q hq
       ·intro x hx; rw [List.getElem?_eq_none (by rw [HLD.out]; omega)] at hx; cases hx
      go_wp2_with fail
      go_roundg (if ch = true then zx out + 1 else 0)
      case rel => exact ⟨ch, out, rfl, rfl, hM, hI, HOKA⟩
      case measure =>
       rcases ch with _ | _
       ·simp
       ·have := hyes.out rfl; simp; omega
     obtain ⟨b0, off, x, rfl, hb0, hx, hcx⟩ := (HD.out.below hM.out.bl lR).at (k := j) (fun _ => rfl) (by decide) hlt
     have HX := iD hx
     have hxm := List.mem_of_getElem? hx
     have HEX := iD (HE.out x hxm)
     have HNX := iD (HNE.out x hxm)
     obtain ⟨nm, kd, xa, xb, co⟩ := x
     have c0 : wr.cell? ⟨b0, off + j * 5, none⟩ = some (.string nm) := hcx 0 _ rfl
     have c1 : wr.cell? ⟨b0, off + j * 5 + 1, none⟩ = some (.int .i64 kd) := hcx 1 _ rfl
     have c2 : wr.cell? ⟨b0, off + j * 5 + 2, none⟩ = some (.int .i64 xa) := hcx 2 _ rfl
     have c3 : wr.cell? ⟨b0, off + j * 5 + 3, none⟩ = some (.int .i64 xb) := hcx 3 _ rfl
     have c4 : wr.cell? ⟨b0, off + j * 5 + 4, none⟩ = some (.int .i64 co) := hcx 4 _ rfl
     clear hx hxm hcx hb0
     go_upto_region 13 with (fail)
     clear c0 c1 c2 c3 c4 k1
     have HV := iD (Blk.new wr 38 #[.string nm, .int .i64 kd, .int .i64 xa, .int .i64 xb, .int .i64 co])
     have HM2 := iD (hM.out.later ((Below.refl _ _).alloc lR (.cells #[.string nm, .int .i64 kd, .int .i64 xa, .int .i64 xb, .int .i64 co] 38)))
     have hM0 := iD hM.out
     clear hM
     obtain ⟨vb, hvb⟩ : ∃ x, x = wr.heap.size := ⟨_, rfl⟩
     have hgov : Hid (go < vb ∨ nn = 0) := by
      rcases Nat.eq_zero_or_pos nn with h | h
      ·exact .inr h
      ·left
       obtain ⟨g, x, e, h1, h2, -⟩ := hM0.out.ob.at h
       injection e with e; injection e with e; subst e
       omega
     rw [← hvb] at HV ⊢
     clear hvb hM0
     generalize World.alloc wr _ = W2 at *
     have hkd : W2.cell? ⟨vb, 1, none⟩ = some (.int .i64 kd) := HV.out.cell 1
     have hxa : W2.cell? ⟨vb, 2, none⟩ = some (.int .i64 xa) := HV.out.cell 2
     have hxb : W2.cell? ⟨vb, 3, none⟩ = some (.int .i64 xb) := HV.out.cell 3
     have HGS : Hid (Sl W2.drew W2.drew.heap.size 1 Ag ng cg (zK gs)) := (HG.out.below HM2.out.bl.drew lR).more HM2.out.bl.drew.size
     have HRJ := iD (wo kd W2.drew)
     have HRH := iD (xB Ag ng cg gs (j : Int) W2.drew HGS.out)
     have HMD := iD (HM2.out.later (Below.refl _ _).drew)
     rcases hj0 : zo kd with _ | _
     ·have HOKJ : Hid (okD ds gs out j) := fun x hx hjx hgx => by
       rw [HX.out] at hx; injection hx with hx; subst hx
       exact absurd hjx (by rw [hj0]; simp)
      refine za (S := fun W' => W' = W2.drew) (J := []) (n := _) ((0, true) :: (1, true) :: (2, false) :: (3, true) :: (4, true) :: (5, true) :: (6, true) :: (7, true) :: (8, true) :: (9, true) :: (10, true) :: (11, true) :: (12, true) :: (13, true) :: (14, true) :: (15, true) :: (16, true) :: (17, true) :: (18, true) :: (19, true) :: (20, true) :: (21, true) :: []) (by as_aux_lemma => kernel_rfl) (by rfl) (zM (k := 11) (by go_simp; rfl) yH) ?_ (fun _ _ _ _ _ h => h) (fun Q2 A hsz hbase hn2 AA => ?_)
      ·exact rfl
      try dsimp only at AA
      obtain ⟨b11, -⟩ := hbase
      refine oT 0 43 ?_ rfl rfl (zB rfl) AA (fun ρ AB w hSw => ?_) ?_
      rotate_left
      ·(have e11 := tm AB hsz 11 rfl (zF b11); clear AB; (try dsimp only at hSw); go_simp; try with_reducible rfl)
      refine oT 1 44 ?_ rfl rfl (zB rfl) AA (fun ρ AB w hSw => ?_) ?_
      rotate_left
      ·(have e43 := tm AB hsz 43 rfl zA; clear AB; (try dsimp only at hSw); subst hSw; go_simp; try with_reducible rfl)
      refine yR (i := 2) (d := 45) (vs := ?_) rfl rfl rfl (zB rfl) (fun ρ AB => ?_) ?_ ?_
      rotate_left
      ·(have e44 := tm AB hsz 44 rfl zA; simp only [List.map_toArray, List.map_cons, List.map_nil, e44]; try with_reducible rfl)
      ·(intro w; go_simp)
      refine HRJ.out.mono ?_
      rintro e w3 ⟨rfl, rfl⟩
      rw [hj0]
      refine ⟨_, rfl, fun _ => ?_, fun AA' => ?_⟩
      ·exact rfl
      replace AA := AA' rfl
      clear AA'
      try dsimp only at AA
      refine oM 3 46 ?_ rfl rfl rfl (zB rfl) AA (fun ρ AB => ?_) ?_
      rotate_left
      ·(have e45 := tm AB hsz 45 rfl zA; exact e45)
      refine oS 4 47 rfl rfl (wN 3 46 true false rfl hsz rfl rfl rfl zA rfl) AA ?_
      refine oS 5 48 rfl rfl (wN 3 46 true false rfl hsz rfl rfl rfl (zC rfl zA) rfl) AA ?_
      refine oS 6 49 rfl rfl (wN 3 46 true false rfl hsz rfl rfl rfl (zC rfl (zC rfl zA)) rfl) AA ?_
      refine oS 7 50 rfl rfl (wN 3 46 true false rfl hsz rfl rfl rfl (zC rfl (zC rfl (zC rfl zA))) rfl) AA ?_
      refine oT 8 51 ?_ rfl rfl (zB rfl) AA (fun ρ AB w hSw => ?_) ?_
      rotate_left
      ·(have hc := AB.const; have e46 := tm AB hsz 46 rfl (zD rfl rfl rfl rfl zA); have e50 := tm AB hsz 50 rfl zA; clear AB; (try dsimp only at hSw); go_simp; try with_reducible rfl)
      refine oM 9 52 ?_ rfl rfl rfl (zB rfl) AA (fun ρ AB => ?_) ?_
      rotate_left
      ·(have e51 := tm AB hsz 51 rfl zA; exact e51)
      refine oS 10 53 rfl rfl (wN 9 52 true false rfl hsz rfl rfl rfl zA rfl) AA ?_
      refine oS 11 54 rfl rfl (wN 9 52 true false rfl hsz rfl rfl rfl (zC rfl zA) rfl) AA ?_
      refine oS 12 55 rfl rfl (wN 9 52 true false rfl hsz rfl rfl rfl (zC rfl (zC rfl zA)) rfl) AA ?_
      refine oS 13 56 rfl rfl (wN 9 52 true false rfl hsz rfl rfl rfl (zC rfl (zC rfl (zC rfl zA))) rfl) AA ?_
      refine oS 14 57 rfl rfl (wN 9 52 true false rfl hsz rfl rfl rfl (zD rfl rfl rfl rfl zA) rfl) AA ?_
      refine oS 15 58 rfl rfl (wN 9 52 true false rfl hsz rfl rfl rfl (zD rfl rfl rfl rfl (zC rfl zA)) rfl) AA ?_
      refine oS 16 59 rfl rfl (wN 9 52 true false rfl hsz rfl rfl rfl (zD rfl rfl rfl rfl (zC rfl (zC rfl zA))) rfl) AA ?_
      refine oS 17 60 rfl rfl (wN 9 52 true false rfl hsz rfl rfl rfl (zD rfl rfl rfl rfl (zC rfl (zC rfl (zC rfl zA)))) rfl) AA ?_
      refine oS 18 61 rfl rfl (wN 9 52 true false rfl hsz rfl rfl rfl (zD rfl rfl rfl rfl (zD rfl rfl rfl rfl zA)) rfl) AA ?_
      refine oS 19 62 rfl rfl (wN 9 52 true false rfl hsz rfl rfl rfl (zD rfl rfl rfl rfl (zD rfl rfl rfl rfl (zC rfl zA))) rfl) AA ?_
      refine oS 20 63 rfl rfl (wN 9 52 true false rfl hsz rfl rfl rfl (zD rfl rfl rfl rfl (zD rfl rfl rfl rfl (zC rfl (zC rfl zA)))) rfl) AA ?_
      refine oT 21 64 ?_ rfl rfl (zB rfl) AA (fun ρ AB w hSw => ?_) ?_
      rotate_left
      ·(have hc := AB.const; have e52 := tm AB hsz 52 rfl (zD rfl rfl rfl rfl (zD rfl rfl rfl rfl (zC rfl (zC rfl (zC rfl zA))))); have e63 := tm AB hsz 63 rfl zA; clear AB; (try dsimp only at hSw); go_simp; try with_reducible rfl)
      refine yG hn2 ?_
      clear AA hn2 b11 hsz A Q2
      simp only [yF, zu, yQ, xO, xP]
      go_wp2_with fail
      go_roundg (nd - (j + 1))
      case rel => exact ⟨j + 1, ch, out, rfl, by go_num, by omega, rfl, HMD, hI, fun e => ⟨(hno.out e).1, fun q hq => (Nat.lt_succ_iff_lt_or_eq.1 hq).elim (fun h => (hno.out e).2 q h) (fun h => by rw [h]; exact HOKJ.out)⟩, hyes⟩
      case measure => omega
     rcases hg0 : decide ((j : Int) ∈ gs) with _ | _; rotate_left
     ·have HOKJ : Hid (okD ds gs out j) := fun x hx hjx hgx => by
       rw [HX.out] at hx; injection hx with hx; subst hx
       exact absurd hgx (by rw [(vl _ _).2 (by simpa using hg0)]; simp)
      refine za (S := fun W' => W' = W2.drew) (J := []) (n := _) ((0, true) :: (1, true) :: (2, false) :: (3, true) :: (4, true) :: (5, true) :: (6, false) :: (7, true) :: (8, true) :: (9, true) :: (10, true) :: (11, true) :: (12, true) :: (13, true) :: (14, true) :: (15, true) :: (16, true) :: (17, true) :: (18, true) :: (19, true) :: (20, true) :: (21, true) :: []) (by as_aux_lemma => kernel_rfl) (by rfl) (zM (k := 11) (by go_simp; rfl) (zM (k := 2) (by go_simp; rfl) (zM (k := 10) (by go_simp; rfl) yH))) ?_ (fun _ _ _ _ _ h => h) (fun Q2 A hsz hbase hn2 AA => ?_)
      ·exact rfl
      try dsimp only at AA
      obtain ⟨b11, b2, b10, -⟩ := hbase
      refine oT 0 43 ?_ rfl rfl (zB rfl) AA (fun ρ AB w hSw => ?_) ?_
      rotate_left
      ·(have e11 := tm AB hsz 11 rfl (zF b11); clear AB; (try dsimp only at hSw); go_simp; try with_reducible rfl)
      refine oT 1 44 ?_ rfl rfl (zB rfl) AA (fun ρ AB w hSw => ?_) ?_
      rotate_left
      ·(have e43 := tm AB hsz 43 rfl zA; clear AB; (try dsimp only at hSw); subst hSw; go_simp; try with_reducible rfl)
      refine yR (i := 2) (d := 45) (vs := ?_) rfl rfl rfl (zB rfl) (fun ρ AB => ?_) ?_ ?_
      rotate_left
      ·(have e44 := tm AB hsz 44 rfl zA; simp only [List.map_toArray, List.map_cons, List.map_nil, e44]; try with_reducible rfl)
      ·(intro w; go_simp)
      refine HRJ.out.mono ?_
      rintro e w3 ⟨rfl, rfl⟩
      rw [hj0]
      refine ⟨_, rfl, fun _ => ?_, fun AA' => ?_⟩
      ·exact rfl
      replace AA := AA' rfl
      clear AA'
      try dsimp only at AA
      refine oM 3 46 ?_ rfl rfl rfl (zB rfl) AA (fun ρ AB => ?_) ?_
      rotate_left
      ·(have e45 := tm AB hsz 45 rfl zA; exact e45)
      refine oM 4 47 ?_ rfl rfl rfl (wY 3 46 true rfl hsz rfl rfl rfl zA) AA (fun ρ AB => ?_) ?_
      rotate_left
      ·(have e2 := tm AB hsz 2 rfl (zD rfl rfl rfl rfl (zF b2)); exact e2)
      refine oM 5 48 ?_ rfl rfl rfl (wY 3 46 true rfl hsz rfl rfl rfl (zC rfl zA)) AA (fun ρ AB => ?_) ?_
      rotate_left
      ·(have e10 := tm AB hsz 10 rfl (zD rfl rfl rfl rfl (zC rfl (zF b10))); exact e10)
      refine yR (i := 6) (d := 49) (vs := ?_) rfl rfl rfl (wY 3 46 true rfl hsz rfl rfl rfl (zC rfl (zC rfl zA))) (fun ρ AB => ?_) ?_ ?_
      rotate_left
      ·(have e47 := tm AB hsz 47 rfl (zC rfl zA); have e48 := tm AB hsz 48 rfl zA; simp only [List.map_toArray, List.map_cons, List.map_nil, e47, e48]; try with_reducible rfl)
      ·(intro w; go_simp)
      refine HRH.out.mono ?_
      rintro e w3 ⟨rfl, rfl⟩
      rw [hg0]
      refine ⟨_, rfl, fun _ => ?_, fun AA' => ?_⟩
      ·exact rfl
      replace AA := AA' rfl
      clear AA'
      try dsimp only at AA
      refine oT 7 50 ?_ rfl rfl (wY 3 46 true rfl hsz rfl rfl rfl (zC rfl (zC rfl (zC rfl zA)))) AA (fun ρ AB w hSw => ?_) ?_
      rotate_left
      ·(have e49 := tm AB hsz 49 rfl zA; clear AB; (try dsimp only at hSw); go_simp; try with_reducible rfl)
      refine oT 8 51 ?_ rfl rfl (zB rfl) AA (fun ρ AB w hSw => ?_) ?_
      rotate_left
      ·(have hc := AB.const; have e46 := tm AB hsz 46 rfl (zD rfl rfl rfl rfl zA); have e50 := tm AB hsz 50 rfl zA; clear AB; (try dsimp only at hSw); go_simp; try with_reducible rfl)
      refine oM 9 52 ?_ rfl rfl rfl (zB rfl) AA (fun ρ AB => ?_) ?_
      rotate_left
      ·(have e51 := tm AB hsz 51 rfl zA; exact e51)
      refine oS 10 53 rfl rfl (wN 9 52 true false rfl hsz rfl rfl rfl zA rfl) AA ?_
      refine oS 11 54 rfl rfl (wN 9 52 true false rfl hsz rfl rfl rfl (zC rfl zA) rfl) AA ?_
      refine oS 12 55 rfl rfl (wN 9 52 true false rfl hsz rfl rfl rfl (zC rfl (zC rfl zA)) rfl) AA ?_
      refine oS 13 56 rfl rfl (wN 9 52 true false rfl hsz rfl rfl rfl (zC rfl (zC rfl (zC rfl zA))) rfl) AA ?_
      refine oS 14 57 rfl rfl (wN 9 52 true false rfl hsz rfl rfl rfl (zD rfl rfl rfl rfl zA) rfl) AA ?_
      refine oS 15 58 rfl rfl (wN 9 52 true false rfl hsz rfl rfl rfl (zD rfl rfl rfl rfl (zC rfl zA)) rfl) AA ?_
      refine oS 16 59 rfl rfl (wN 9 52 true false rfl hsz rfl rfl rfl (zD rfl rfl rfl rfl (zC rfl (zC rfl zA))) rfl) AA ?_
      refine oS 17 60 rfl rfl (wN 9 52 true false rfl hsz rfl rfl rfl (zD rfl rfl rfl rfl (zC rfl (zC rfl (zC rfl zA)))) rfl) AA ?_
      refine oS 18 61 rfl rfl (wN 9 52 true false rfl hsz rfl rfl rfl (zD rfl rfl rfl rfl (zD rfl rfl rfl rfl zA)) rfl) AA ?_
      refine oS 19 62 rfl rfl (wN 9 52 true false rfl hsz rfl rfl rfl (zD rfl rfl rfl rfl (zD rfl rfl rfl rfl (zC rfl zA))) rfl) AA ?_
      refine oS 20 63 rfl rfl (wN 9 52 true false rfl hsz rfl rfl rfl (zD rfl rfl rfl rfl (zD rfl rfl rfl rfl (zC rfl (zC rfl zA)))) rfl) AA ?_
      refine oT 21 64 ?_ rfl rfl (zB rfl) AA (fun ρ AB w hSw => ?_) ?_
      rotate_left
      ·(have hc := AB.const; have e52 := tm AB hsz 52 rfl (zD rfl rfl rfl rfl (zD rfl rfl rfl rfl (zC rfl (zC rfl (zC rfl zA))))); have e63 := tm AB hsz 63 rfl zA; clear AB; (try dsimp only at hSw); go_simp; try with_reducible rfl)
      refine yG hn2 ?_
      clear AA hn2 b11 b2 b10 hsz A Q2
      simp only [yF, zu, yQ, xO, xP]
      go_wp2_with fail
      go_roundg (nd - (j + 1))
      case rel => exact ⟨j + 1, ch, out, rfl, by go_num, by omega, rfl, HMD, hI, fun e => ⟨(hno.out e).1, fun q hq => (Nat.lt_succ_iff_lt_or_eq.1 hq).elim (fun h => (hno.out e).2 q h) (fun h => by rw [h]; exact HOKJ.out)⟩, hyes⟩
      case measure => omega
     have hgf : yx gs j = false := (o4 _ _).2 (by simpa using hg0)
     have hend := HEX.out hj0
     simp only at hend
     obtain ⟨a, rfl⟩ := Int.eq_ofNat_of_zero_le hend.1.1
     obtain ⟨b, rfl⟩ := Int.eq_ofNat_of_zero_le hend.2.1
     have han : a < nn := by omega
     have hbn : b < nn := by omega
     have hba : b ≠ a := by have := HNX.out hj0; simp only at this; omega
     obtain ⟨va, hva, hca, hfa⟩ := HM2.out.cell han
     obtain ⟨vb2, hvb2, hcb, hfb⟩ := HM2.out.cell hbn
     have HVA := iD hva; have HVB := iD hvb2
     have HGF := iD hgf
     clear hend hva hvb2 hgf
     by_cases hne : va = vb2
     ·subst hne
      have qn : (va != va) = false := by simp
      have HOKJ : Hid (okD ds gs out j) := fun x hx hjx hgx => by
       rw [HX.out] at hx; injection hx with hx; subst hx
       rw [show zZ out ((⟨nm, kd, a, b, co⟩ : Dv).a) ↔ zZ out ((⟨nm, kd, a, b, co⟩ : Dv).b) from (yP.trans (by rw [HVA.out, HVB.out])).trans yP.symm]
      refine za (S := fun W' => W' = W2.drew) (J := []) (n := _) ((0, true) :: (1, true) :: (2, false) :: (3, true) :: (4, true) :: (5, true) :: (6, false) :: (7, true) :: (8, true) :: (9, true) :: (10, true) :: (11, true) :: (12, true) :: (13, true) :: (14, true) :: (15, true) :: (16, true) :: (17, true) :: (18, true) :: (19, true) :: (20, true) :: (21, true) :: []) (by as_aux_lemma => kernel_rfl) (by rfl) (zM (k := 11) (by go_simp; rfl) (zM (k := 2) (by go_simp; rfl) (zM (k := 10) (by go_simp; rfl) (zM (k := 7) (by go_simp; rfl) yH)))) ?_ (fun _ _ _ _ _ h => h) (fun Q2 A hsz hbase hn2 AA => ?_)
      ·exact rfl
      try dsimp only at AA
      obtain ⟨b11, b2, b10, b7, -⟩ := hbase
      refine oT 0 43 ?_ rfl rfl (zB rfl) AA (fun ρ AB w hSw => ?_) ?_
      rotate_left
      ·(have e11 := tm AB hsz 11 rfl (zF b11); clear AB; (try dsimp only at hSw); go_simp; try with_reducible rfl)
      refine oT 1 44 ?_ rfl rfl (zB rfl) AA (fun ρ AB w hSw => ?_) ?_
      rotate_left
      ·(have e43 := tm AB hsz 43 rfl zA; clear AB; (try dsimp only at hSw); subst hSw; go_simp; try with_reducible rfl)
      refine yR (i := 2) (d := 45) (vs := ?_) rfl rfl rfl (zB rfl) (fun ρ AB => ?_) ?_ ?_
      rotate_left
      ·(have e44 := tm AB hsz 44 rfl zA; simp only [List.map_toArray, List.map_cons, List.map_nil, e44]; try with_reducible rfl)
      ·(intro w; go_simp)
      refine HRJ.out.mono ?_
      rintro e w3 ⟨rfl, rfl⟩
      rw [hj0]
      refine ⟨_, rfl, fun _ => ?_, fun AA' => ?_⟩
      ·exact rfl
      replace AA := AA' rfl
      clear AA'
      try dsimp only at AA
      refine oM 3 46 ?_ rfl rfl rfl (zB rfl) AA (fun ρ AB => ?_) ?_
      rotate_left
      ·(have e45 := tm AB hsz 45 rfl zA; exact e45)
      refine oM 4 47 ?_ rfl rfl rfl (wY 3 46 true rfl hsz rfl rfl rfl zA) AA (fun ρ AB => ?_) ?_
      rotate_left
      ·(have e2 := tm AB hsz 2 rfl (zD rfl rfl rfl rfl (zF b2)); exact e2)
      refine oM 5 48 ?_ rfl rfl rfl (wY 3 46 true rfl hsz rfl rfl rfl (zC rfl zA)) AA (fun ρ AB => ?_) ?_
      rotate_left
      ·(have e10 := tm AB hsz 10 rfl (zD rfl rfl rfl rfl (zC rfl (zF b10))); exact e10)
      refine yR (i := 6) (d := 49) (vs := ?_) rfl rfl rfl (wY 3 46 true rfl hsz rfl rfl rfl (zC rfl (zC rfl zA))) (fun ρ AB => ?_) ?_ ?_
      rotate_left
      ·(have e47 := tm AB hsz 47 rfl (zC rfl zA); have e48 := tm AB hsz 48 rfl zA; simp only [List.map_toArray, List.map_cons, List.map_nil, e47, e48]; try with_reducible rfl)
      ·(intro w; go_simp)
      refine HRH.out.mono ?_
      rintro e w3 ⟨rfl, rfl⟩
      rw [hg0]
      refine ⟨_, rfl, fun _ => ?_, fun AA' => ?_⟩
      ·exact rfl
      replace AA := AA' rfl
      clear AA'
      try dsimp only at AA
      refine oT 7 50 ?_ rfl rfl (wY 3 46 true rfl hsz rfl rfl rfl (zC rfl (zC rfl (zC rfl zA)))) AA (fun ρ AB w hSw => ?_) ?_
      rotate_left
      ·(have e49 := tm AB hsz 49 rfl zA; clear AB; (try dsimp only at hSw); go_simp; try with_reducible rfl)
      refine oT 8 51 ?_ rfl rfl (zB rfl) AA (fun ρ AB w hSw => ?_) ?_
      rotate_left
      ·(have hc := AB.const; have e46 := tm AB hsz 46 rfl (zD rfl rfl rfl rfl zA); have e50 := tm AB hsz 50 rfl zA; clear AB; (try dsimp only at hSw); go_simp; try with_reducible rfl)
      refine oM 9 52 ?_ rfl rfl rfl (zB rfl) AA (fun ρ AB => ?_) ?_
      rotate_left
      ·(have e51 := tm AB hsz 51 rfl zA; exact e51)
      refine oM 10 53 ?_ rfl rfl rfl (wY 9 52 true rfl hsz rfl rfl rfl zA) AA (fun ρ AB => ?_) ?_
      rotate_left
      ·(have e7 := tm AB hsz 7 rfl (zD rfl rfl rfl rfl (zD rfl rfl rfl rfl (zC rfl (zC rfl (zF b7))))); exact e7)
      refine oT 11 54 ?_ rfl rfl (wY 9 52 true rfl hsz rfl rfl rfl (zC rfl zA)) AA (fun ρ AB w hSw => ?_) ?_
      rotate_left
      ·(have e11 := tm AB hsz 11 rfl (zD rfl rfl rfl rfl (zD rfl rfl rfl rfl (zC rfl (zC rfl (zC rfl (zF b11)))))); clear AB; (try dsimp only at hSw); go_simp; try with_reducible rfl)
      refine oT 12 55 ?_ rfl rfl (wY 9 52 true rfl hsz rfl rfl rfl (zC rfl (zC rfl zA))) AA (fun ρ AB w hSw => ?_) ?_
      rotate_left
      ·(have e54 := tm AB hsz 54 rfl zA; clear AB; (try dsimp only at hSw); subst hSw; go_simp; try with_reducible rfl)
      refine oT 13 56 ?_ rfl rfl (wY 9 52 true rfl hsz rfl rfl rfl (zC rfl (zC rfl (zC rfl zA)))) AA (fun ρ AB w hSw => ?_) ?_
      rotate_left
      ·(have e53 := tm AB hsz 53 rfl (zC rfl (zC rfl zA)); have e55 := tm AB hsz 55 rfl zA; clear AB; (try dsimp only at hSw); go_simp; try with_reducible rfl)
      refine oT 14 57 ?_ rfl rfl (wY 9 52 true rfl hsz rfl rfl rfl (zD rfl rfl rfl rfl zA)) AA (fun ρ AB w hSw => ?_) ?_
      rotate_left
      ·(have e56 := tm AB hsz 56 rfl zA; clear AB; (try dsimp only at hSw); subst hSw; go_simp; try with_reducible rfl)
      refine oM 15 58 ?_ rfl rfl rfl (wY 9 52 true rfl hsz rfl rfl rfl (zD rfl rfl rfl rfl (zC rfl zA))) AA (fun ρ AB => ?_) ?_
      rotate_left
      ·(have e7 := tm AB hsz 7 rfl (zD rfl rfl rfl rfl (zD rfl rfl rfl rfl (zD rfl rfl rfl rfl (zC rfl (zC rfl (zC rfl (zF b7))))))); exact e7)
      refine oT 16 59 ?_ rfl rfl (wY 9 52 true rfl hsz rfl rfl rfl (zD rfl rfl rfl rfl (zC rfl (zC rfl zA)))) AA (fun ρ AB w hSw => ?_) ?_
      rotate_left
      ·(have e11 := tm AB hsz 11 rfl (zD rfl rfl rfl rfl (zD rfl rfl rfl rfl (zD rfl rfl rfl rfl (zD rfl rfl rfl rfl (zF b11))))); clear AB; (try dsimp only at hSw); go_simp; try with_reducible rfl)
      refine oT 17 60 ?_ rfl rfl (wY 9 52 true rfl hsz rfl rfl rfl (zD rfl rfl rfl rfl (zC rfl (zC rfl (zC rfl zA))))) AA (fun ρ AB w hSw => ?_) ?_
      rotate_left
      ·(have e59 := tm AB hsz 59 rfl zA; clear AB; (try dsimp only at hSw); subst hSw; go_simp; try with_reducible rfl)
      refine oT 18 61 ?_ rfl rfl (wY 9 52 true rfl hsz rfl rfl rfl (zD rfl rfl rfl rfl (zD rfl rfl rfl rfl zA))) AA (fun ρ AB w hSw => ?_) ?_
      rotate_left
      ·(have e58 := tm AB hsz 58 rfl (zC rfl (zC rfl zA)); have e60 := tm AB hsz 60 rfl zA; clear AB; (try dsimp only at hSw); go_simp; try with_reducible rfl)
      refine oT 19 62 ?_ rfl rfl (wY 9 52 true rfl hsz rfl rfl rfl (zD rfl rfl rfl rfl (zD rfl rfl rfl rfl (zC rfl zA)))) AA (fun ρ AB w hSw => ?_) ?_
      rotate_left
      ·(have e61 := tm AB hsz 61 rfl zA; clear AB; (try dsimp only at hSw); subst hSw; go_simp; try with_reducible rfl)
      refine oT 20 63 ?_ rfl rfl (wY 9 52 true rfl hsz rfl rfl rfl (zD rfl rfl rfl rfl (zD rfl rfl rfl rfl (zC rfl (zC rfl zA))))) AA (fun ρ AB w hSw => ?_) ?_
      rotate_left
      ·(have e57 := tm AB hsz 57 rfl (zD rfl rfl rfl rfl (zC rfl zA)); have e62 := tm AB hsz 62 rfl zA; clear AB; (try dsimp only at hSw); go_simp; try with_reducible rfl)
      refine oT 21 64 ?_ rfl rfl (zB rfl) AA (fun ρ AB w hSw => ?_) ?_
      rotate_left
      ·(have hc := AB.const; have e52 := tm AB hsz 52 rfl (zD rfl rfl rfl rfl (zD rfl rfl rfl rfl (zC rfl (zC rfl (zC rfl zA))))); have e63 := tm AB hsz 63 rfl zA; clear AB; (try dsimp only at hSw); go_simp; try with_reducible rfl)
      refine yG hn2 ?_
      clear AA hn2 b11 b2 b10 b7 hsz A Q2
      simp only [yF, zu, yQ, xO, xP]
      go_wp2_with fail
      go_roundg (nd - (j + 1))
      case rel => exact ⟨j + 1, ch, out, rfl, by go_num, by omega, rfl, HMD, hI, fun e => ⟨(hno.out e).1, fun q hq => (Nat.lt_succ_iff_lt_or_eq.1 hq).elim (fun h => (hno.out e).2 q h) (fun h => by rw [h]; exact HOKJ.out)⟩, hyes⟩
      case measure => omega
     have qn : (va != vb2) = true := by simpa using hne
     have qn2 : (!va == vb2) = true := by cases va <;> cases vb2 <;> first | rfl | exact absurd rfl hne
     have HNE2 := iD hne
     clear hne
     refine za (S := fun W' => W' = W2.drew) (J := []) (n := _) ((0, true) :: (1, true) :: (2, false) :: (3, true) :: (4, true) :: (5, true) :: (6, false) :: (7, true) :: (8, true) :: (9, true) :: (10, true) :: (11, true) :: (12, true) :: (13, true) :: (14, true) :: (15, true) :: (16, true) :: (17, true) :: (18, true) :: (19, true) :: (20, true) :: (21, true) :: []) (by as_aux_lemma => kernel_rfl) (by rfl) (zM (k := 11) (by go_simp; rfl) (zM (k := 2) (by go_simp; rfl) (zM (k := 10) (by go_simp; rfl) (zM (k := 7) (by go_simp; rfl) yH)))) ?_ (fun _ _ _ _ _ h => h) (fun Q2 A hsz hbase hn2 AA => ?_)
     ·exact rfl
     try dsimp only at AA
     obtain ⟨b11, b2, b10, b7, -⟩ := hbase
     refine oT 0 43 ?_ rfl rfl (zB rfl) AA (fun ρ AB w hSw => ?_) ?_
     rotate_left
     ·(have e11 := tm AB hsz 11 rfl (zF b11); clear AB; (try dsimp only at hSw); go_simp; try with_reducible rfl)
     refine oT 1 44 ?_ rfl rfl (zB rfl) AA (fun ρ AB w hSw => ?_) ?_
     rotate_left
     ·(have e43 := tm AB hsz 43 rfl zA; clear AB; (try dsimp only at hSw); subst hSw; go_simp; try with_reducible rfl)
     refine yR (i := 2) (d := 45) (vs := ?_) rfl rfl rfl (zB rfl) (fun ρ AB => ?_) ?_ ?_
     rotate_left
     ·(have e44 := tm AB hsz 44 rfl zA; simp only [List.map_toArray, List.map_cons, List.map_nil, e44]; try with_reducible rfl)
     ·(intro w; go_simp)
     refine HRJ.out.mono ?_
     rintro e w3 ⟨rfl, rfl⟩
     rw [hj0]
     refine ⟨_, rfl, fun _ => ?_, fun AA' => ?_⟩
     ·exact rfl
     replace AA := AA' rfl
     clear AA'
     try dsimp only at AA
     refine oM 3 46 ?_ rfl rfl rfl (zB rfl) AA (fun ρ AB => ?_) ?_
     rotate_left
     ·(have e45 := tm AB hsz 45 rfl zA; exact e45)
     refine oM 4 47 ?_ rfl rfl rfl (wY 3 46 true rfl hsz rfl rfl rfl zA) AA (fun ρ AB => ?_) ?_
     rotate_left
     ·(have e2 := tm AB hsz 2 rfl (zD rfl rfl rfl rfl (zF b2)); exact e2)
     refine oM 5 48 ?_ rfl rfl rfl (wY 3 46 true rfl hsz rfl rfl rfl (zC rfl zA)) AA (fun ρ AB => ?_) ?_
     rotate_left
     ·(have e10 := tm AB hsz 10 rfl (zD rfl rfl rfl rfl (zC rfl (zF b10))); exact e10)
     refine yR (i := 6) (d := 49) (vs := ?_) rfl rfl rfl (wY 3 46 true rfl hsz rfl rfl rfl (zC rfl (zC rfl zA))) (fun ρ AB => ?_) ?_ ?_
     rotate_left
     ·(have e47 := tm AB hsz 47 rfl (zC rfl zA); have e48 := tm AB hsz 48 rfl zA; simp only [List.map_toArray, List.map_cons, List.map_nil, e47, e48]; try with_reducible rfl)
     ·(intro w; go_simp)
     refine HRH.out.mono ?_
     rintro e w3 ⟨rfl, rfl⟩
     rw [hg0]
     refine ⟨_, rfl, fun _ => ?_, fun AA' => ?_⟩
     ·exact rfl
     replace AA := AA' rfl
     clear AA'
     try dsimp only at AA
     refine oT 7 50 ?_ rfl rfl (wY 3 46 true rfl hsz rfl rfl rfl (zC rfl (zC rfl (zC rfl zA)))) AA (fun ρ AB w hSw => ?_) ?_
     rotate_left
     ·(have e49 := tm AB hsz 49 rfl zA; clear AB; (try dsimp only at hSw); go_simp; try with_reducible rfl)
     refine oT 8 51 ?_ rfl rfl (zB rfl) AA (fun ρ AB w hSw => ?_) ?_
     rotate_left
     ·(have hc := AB.const; have e46 := tm AB hsz 46 rfl (zD rfl rfl rfl rfl zA); have e50 := tm AB hsz 50 rfl zA; clear AB; (try dsimp only at hSw); go_simp; try with_reducible rfl)
     refine oM 9 52 ?_ rfl rfl rfl (zB rfl) AA (fun ρ AB => ?_) ?_
     rotate_left
     ·(have e51 := tm AB hsz 51 rfl zA; exact e51)
     refine oM 10 53 ?_ rfl rfl rfl (wY 9 52 true rfl hsz rfl rfl rfl zA) AA (fun ρ AB => ?_) ?_
     rotate_left
     ·(have e7 := tm AB hsz 7 rfl (zD rfl rfl rfl rfl (zD rfl rfl rfl rfl (zC rfl (zC rfl (zF b7))))); exact e7)
     refine oT 11 54 ?_ rfl rfl (wY 9 52 true rfl hsz rfl rfl rfl (zC rfl zA)) AA (fun ρ AB w hSw => ?_) ?_
     rotate_left
     ·(have e11 := tm AB hsz 11 rfl (zD rfl rfl rfl rfl (zD rfl rfl rfl rfl (zC rfl (zC rfl (zC rfl (zF b11)))))); clear AB; (try dsimp only at hSw); go_simp; try with_reducible rfl)
     refine oT 12 55 ?_ rfl rfl (wY 9 52 true rfl hsz rfl rfl rfl (zC rfl (zC rfl zA))) AA (fun ρ AB w hSw => ?_) ?_
     rotate_left
     ·(have e54 := tm AB hsz 54 rfl zA; clear AB; (try dsimp only at hSw); subst hSw; go_simp; try with_reducible rfl)
     refine oT 13 56 ?_ rfl rfl (wY 9 52 true rfl hsz rfl rfl rfl (zC rfl (zC rfl (zC rfl zA)))) AA (fun ρ AB w hSw => ?_) ?_
     rotate_left
     ·(have e53 := tm AB hsz 53 rfl (zC rfl (zC rfl zA)); have e55 := tm AB hsz 55 rfl zA; clear AB; (try dsimp only at hSw); go_simp; try with_reducible rfl)
     refine oT 14 57 ?_ rfl rfl (wY 9 52 true rfl hsz rfl rfl rfl (zD rfl rfl rfl rfl zA)) AA (fun ρ AB w hSw => ?_) ?_
     rotate_left
     ·(have e56 := tm AB hsz 56 rfl zA; clear AB; (try dsimp only at hSw); subst hSw; go_simp; try with_reducible rfl)
     refine oM 15 58 ?_ rfl rfl rfl (wY 9 52 true rfl hsz rfl rfl rfl (zD rfl rfl rfl rfl (zC rfl zA))) AA (fun ρ AB => ?_) ?_
     rotate_left
     ·(have e7 := tm AB hsz 7 rfl (zD rfl rfl rfl rfl (zD rfl rfl rfl rfl (zD rfl rfl rfl rfl (zC rfl (zC rfl (zC rfl (zF b7))))))); exact e7)
     refine oT 16 59 ?_ rfl rfl (wY 9 52 true rfl hsz rfl rfl rfl (zD rfl rfl rfl rfl (zC rfl (zC rfl zA)))) AA (fun ρ AB w hSw => ?_) ?_
     rotate_left
     ·(have e11 := tm AB hsz 11 rfl (zD rfl rfl rfl rfl (zD rfl rfl rfl rfl (zD rfl rfl rfl rfl (zD rfl rfl rfl rfl (zF b11))))); clear AB; (try dsimp only at hSw); go_simp; try with_reducible rfl)
     refine oT 17 60 ?_ rfl rfl (wY 9 52 true rfl hsz rfl rfl rfl (zD rfl rfl rfl rfl (zC rfl (zC rfl (zC rfl zA))))) AA (fun ρ AB w hSw => ?_) ?_
     rotate_left
     ·(have e59 := tm AB hsz 59 rfl zA; clear AB; (try dsimp only at hSw); subst hSw; go_simp; try with_reducible rfl)
     refine oT 18 61 ?_ rfl rfl (wY 9 52 true rfl hsz rfl rfl rfl (zD rfl rfl rfl rfl (zD rfl rfl rfl rfl zA))) AA (fun ρ AB w hSw => ?_) ?_
     rotate_left
     ·(have e58 := tm AB hsz 58 rfl (zC rfl (zC rfl zA)); have e60 := tm AB hsz 60 rfl zA; clear AB; (try dsimp only at hSw); go_simp; try with_reducible rfl)
     refine oT 19 62 ?_ rfl rfl (wY 9 52 true rfl hsz rfl rfl rfl (zD rfl rfl rfl rfl (zD rfl rfl rfl rfl (zC rfl zA)))) AA (fun ρ AB w hSw => ?_) ?_
     rotate_left
     ·(have e61 := tm AB hsz 61 rfl zA; clear AB; (try dsimp only at hSw); subst hSw; go_simp; try with_reducible rfl)
     refine oT 20 63 ?_ rfl rfl (wY 9 52 true rfl hsz rfl rfl rfl (zD rfl rfl rfl rfl (zD rfl rfl rfl rfl (zC rfl (zC rfl zA))))) AA (fun ρ AB w hSw => ?_) ?_
     rotate_left
     ·(have e57 := tm AB hsz 57 rfl (zD rfl rfl rfl rfl (zC rfl zA)); have e62 := tm AB hsz 62 rfl zA; clear AB; (try dsimp only at hSw); go_simp; try with_reducible rfl)
     refine oT 21 64 ?_ rfl rfl (zB rfl) AA (fun ρ AB w hSw => ?_) ?_
     rotate_left
     ·(have hc := AB.const; have e52 := tm AB hsz 52 rfl (zD rfl rfl rfl rfl (zD rfl rfl rfl rfl (zC rfl (zC rfl (zC rfl zA))))); have e63 := tm AB hsz 63 rfl zA; clear AB; (try dsimp only at hSw); go_simp; try with_reducible rfl)
     refine yG hn2 ?_
     clear AA hn2 b11 b2 b10 b7 hsz A Q2
     simp only [yF, zu, yQ, xO, xP]
     clear HRJ HRH HGS
     go_upto_region 14 with (fail)
     clear qn qn2 hkd
     have HTM := iD (m6 (out := out) (a := a) (b := b) (by rw [hI.out.len]; exact han) (by rw [hI.out.len]; exact hbn))
     have HTC := iD (m9 HVA.out HVB.out HNE2.out (Ne.symm hba))
     have HM1 := iD ((((HM2.out.put han true).put hbn true).later (Below.refl _ _).drew).later (Below.refl _ _).drew)
     have HDI : Hid (zZ out a ∨ zZ out b) := by
      have e1 := yP (out := out) (k := a); have e2 := yP (out := out) (k := b)
      rw [HVA.out] at e1; rw [HVB.out] at e2
      rcases va with _ | _
      ·rcases vb2 with _ | _
       ·exact absurd rfl HNE2.out
       ·exact .inr (e2.2 rfl)
      ·exact .inl (e1.2 rfl)
     have HZ1 : Hid (ZhI nn ds gs z ((out.set a true).set b true)) := hI.out.mark HX.out hj0 HGF.out rfl rfl hba HDI.out (by rw [List.length_set, List.length_set]; exact hI.out.len) HTM.out.1
     have HC1 : Hid (zx ((out.set a true).set b true) < zx oz) := by
      have h1 := HTC.out.1
      rcases ch with _ | _
      ·rw [← (hno.out rfl).1]; exact h1
      ·have h2 := hyes.out rfl; unfold Hid; omega
     have hgv : go ≠ vb := by have := hgov.out; omega
     have HSA : Hid (∀ k v, (W2.setCell ⟨go, k, none⟩ v).cell? ⟨vb, 2, none⟩ = some (.int .i64 a) ∧ (W2.setCell ⟨go, k, none⟩ v).cell? ⟨vb, 3, none⟩ = some (.int .i64 b)) := fun k v => ⟨(HV.out.far (p := ⟨go, k, none⟩) (Ne.symm hgv) v).cell 2, (HV.out.far (p := ⟨go, k, none⟩) (Ne.symm hgv) v).cell 3⟩
     have HSB : Hid (∀ k v k2 v2, ((W2.setCell ⟨go, k, none⟩ v).setCell ⟨go, k2, none⟩ v2).cell? ⟨vb, 2, none⟩ = some (.int .i64 a) ∧ ((W2.setCell ⟨go, k, none⟩ v).setCell ⟨go, k2, none⟩ v2).cell? ⟨vb, 3, none⟩ = some (.int .i64 b)) := fun k v k2 v2 => ⟨((HV.out.far (p := ⟨go, k, none⟩) (Ne.symm hgv) v).far (p := ⟨go, k2, none⟩) (Ne.symm hgv) v2).cell 2, ((HV.out.far (p := ⟨go, k, none⟩) (Ne.symm hgv) v).far (p := ⟨go, k2, none⟩) (Ne.symm hgv) v2).cell 3⟩
     refine zJ (S := fun W' => W'.cell? ⟨vb, 2, none⟩ = some (.int .i64 a) ∧ W'.cell? ⟨vb, 3, none⟩ = some (.int .i64 b)) (J := []) (by kernel_rfl) ?_ (fun AA => ?_)
     ·exact ⟨HV.out.cell 2, HV.out.cell 3⟩
     try dsimp only at AA
     refine tk 0 65 (mf 10 1) AA ?_
     refine tk 1 66 (mf 10 2) AA ?_
     refine y6 (i := 2) (d := some 67) (v := ?_) (mf 10 3) (by kernel_rfl) rfl rfl (by kernel_rfl) (by kernel_rfl) (by kernel_rfl) (by kernel_rfl) (by kernel_rfl) (fun _ _ _ h => h) (Or.inl ⟨by rfl, ?_⟩) AA ?_
     rotate_left
     ·(intro w hSw; (try dsimp only at hSw); have q := hSw.1; clear hSw; go_simp; try with_reducible rfl)
     try simp only [Act.put, sA, s0, s1]
     refine tk 3 68 (mf 10 4) AA ?_
     refine tk 4 69 (mf 10 5) AA ?_
     refine y6 (i := 5) (d := some 70) (v := ?_) (mf 10 6) (by kernel_rfl) rfl rfl (by kernel_rfl) (by kernel_rfl) (by kernel_rfl) (by kernel_rfl) (by kernel_rfl) (fun _ _ _ h => h) (Or.inl ⟨by rfl, ?_⟩) AA ?_
     rotate_left
     ·(intro w hSw; (try dsimp only at hSw); have q := hSw.2; clear hSw; go_simp; try with_reducible rfl)
     try simp only [Act.put, sA, s0, s1]
     refine tk 6 71 (mf 10 7) AA ?_
     refine zG (k := 7) (mf 10 8) (by kernel_rfl) (by kernel_rfl) rfl (fun K hK => ?_)
     go_simp
     refine hK.out _ _ (fun _ => ?_) (fun AA' => ?_)
     ·exact HSA.out _ _
     replace AA := AA' rfl
     clear AA' hK K
     try dsimp only at AA
     refine tk 8 72 (mf 10 9) AA ?_
     refine zG (k := 9) (mf 10 10) (by kernel_rfl) (by kernel_rfl) rfl (fun K hK => ?_)
     go_simp
     refine hK.out _ _ (fun _ => ?_) (fun AA' => ?_)
     ·exact HSB.out _ _ _ _
     replace AA := AA' rfl
     clear AA' hK K
     try dsimp only at AA
     refine zH (by kernel_rfl) ?_ _
     go_wp2_with fail
     go_roundg (nd - (j + 1))
     case rel => exact ⟨j + 1, true, _, rfl, by go_num, by omega, rfl, HM1, HZ1, (fun e => by cases e), fun _ => HC1.out⟩
     case measure => omega
end
section
open Go.RowKit
theorem jM {w : World} {B n c : Nat} {A : Option Addr} {l : List Int} (h : Sl w B 1 A n c (zK l)) (hn : 0 < n) : ∃ b off, A = some ⟨b, off, none⟩ ∧ b < B ∧ ∀ j x, l[j]? = some x → w.cell? ⟨b, off + j, none⟩ = some (.int .i64 x) := by
 obtain ⟨b, off, e, hb, hc⟩ := h.2.2.2.2 hn
 exact ⟨b, off, e, hb, fun j x hx => hc j _ (by unfold zK; rw [wX, List.getElem?_map, hx]; rfl)⟩
theorem sV (R : Int → Prop) (g : Nat) (lb : Array Value) (p : Int → Bool) (eg : ∀ args w, (callFunc g args).run Tryz.prog w = .ok (.enter g args) w) (A : Option Addr) (n c B : Nat) (l : List Int) (w : World) (h : Sl w B 1 A n c (zK l)) (hR : ∀ u ∈ l, R u)
 (hp : ∀ (W : World) (x : Int), R x → Below w.heap.size w W → FnGives Tryz.prog g lb #[.int .i64 x] (.bool (p x)) W) :
 Calls Tryz.prog 52 #[.slice A n c, .func (.func g) #[] lb] w fun e w' => e = .returned (.bool (l.any p)) ∧ ∃ q, w' = w.drewN q := by
 have hl : l.length = n := h.len (fun _ => rfl) (by decide)
 have hle := h.le
 rcases Nat.eq_zero_or_pos n with rfl | h0
 ·have : l = [] := List.eq_nil_of_length_eq_zero hl
  subst this
  refine (Tryz.slices_ContainsFunc_empty (α := Int) A c (.func (.func g) #[] lb) w).mono ?_
  rintro e w1 ⟨rfl, rfl⟩
  exact ⟨rfl, 0, rfl⟩
 ·obtain ⟨b, off, rfl, hb, hc⟩ := jM h h0
  have hi : 0 < l.length := by omega
  haveI : Inhabited {u : Int // R u} := ⟨⟨l[0]'hi, hR _ (List.getElem_mem hi)⟩⟩
  refine (Tryz.slices_ContainsFunc (α := {u : Int // R u}) (fun x => Value.int .i64 x.1) (fun x => p x.1) g lb eg b off n c (l.pmap (fun u hu => ⟨u, hu⟩) hR) w (fun W x hb => hp W x.1 x.2 hb) (by rw [List.length_pmap]; omega) (by omega) (fun j hj => ?_)).mono ?_
  ·rw [List.length_pmap] at hj
   rw [hc j (l[j]'hj) (List.getElem?_eq_getElem hj)]
   congr 2
   simp [hj]
  ·rintro e w1 ⟨rfl, q, rfl⟩
   refine ⟨?_, q, rfl⟩
   rw [List.take_of_length_le (by rw [List.length_pmap]; omega)]
   congr 2
   rw [Bool.eq_iff_iff, List.any_eq_true, List.any_eq_true]
   constructor
   ·rintro ⟨x, hx, hpx⟩
    obtain ⟨u, hu, rfl⟩ := List.mem_pmap.1 hx
    exact ⟨u, hu, hpx⟩
   ·rintro ⟨u, hu, hpu⟩
    exact ⟨⟨u, hR u hu⟩, List.mem_pmap.2 ⟨u, hu, rfl⟩, hpu⟩
end
section
open Go.RowKit
def Rea (ds : List Dv) (es : List Int) (v u : Int) : Prop := Rch ds (fun _ => true) (fun u => yx es u) [v] u
def uM (k : Int) : Bool := k == 5 || k == 6
def Ptd (ds : List Dv) (es : List Int) (v : Int) : Prop := (∀ (i : Nat) (x : Dv), ds[i]? = some x → uM x.kind = true → Rea ds es v x.a → yx es x.a = true) ∧ ∃ u ∈ es, Rea ds es v u
open Classical in
noncomputable def xZ (ds : List Dv) (es : List Int) (v : Int) : Bool := decide (Ptd ds es v)
theorem sL {ds : List Dv} {es : List Int} {v : Int} : xZ ds es v = true ↔ Ptd ds es v := by unfold xZ; simp
theorem tn {ds : List Dv} {es : List Int} {v : Int} (h : ¬ Ptd ds es v) : xZ ds es v = false := by unfold xZ; simpa using h
theorem qA (Ag : Option Addr) (n c B bb : Nat) (es : List Int) (u : Int) (W : World) (hc : W.cell? ⟨bb, 0, none⟩ = some (.slice Ag n c)) (hs : Sl W B 1 Ag n c (zK es)) :
 Calls Tryz.prog 150 #[.int .i64 u, .pointer (some ⟨bb, 0, none⟩)] W fun e W' => e = .returned (.bool (yx es u)) ∧ W = W' := by
 have HC := iD (tz Ag n c B es u W hs)
 clear hs
 go_enter Tryz.func150, Tryz.ntmps150
 go_wp2_with fail
 refine HC.out.mono ?_
 rintro e w1 ⟨rfl, rfl⟩
 go_wp2_with fail
 go_ret
 exact ⟨rfl, rfl⟩
theorem km (v : Int) (w : World) : Calls Tryz.prog 152 #[.int .i64 v] w fun e w' => e = .returned (.bool true) ∧ w = w' := by
 go_enter Tryz.func152, Tryz.ntmps152
 go_wp2_with fail
 go_ret
 exact ⟨rfl, rfl⟩
theorem mJ (b go n : Nat) (c B : Nat) (l : List Bool) (u : Int) (W : World) (hc : W.cell? ⟨b, 0, none⟩ = some (.slice (some ⟨go, 0, none⟩) n c)) (hs : Sl W B 1 (some ⟨go, 0, none⟩) n c (xR l)) (h0 : 0 ≤ u) (h1 : u < n) :
 FnGives Tryz.prog 153 #[.pointer (some ⟨b, 0, none⟩)] #[.int .i64 u] (.bool (l.getD u.toNat false)) W := by
 obtain ⟨k, rfl⟩ := Int.eq_ofNat_of_zero_le h0
 have hk : k < n := by omega
 have hll : l.length = n := by have := hs.1; rw [tZ] at this; omega
 obtain ⟨x, hx⟩ : ∃ x, l[k]? = some x := ⟨_, List.getElem?_eq_getElem (by omega)⟩
 have hcx : W.cell? ⟨go, k, none⟩ = some (.bool x) := by
  obtain ⟨b', off', e, hb, hat⟩ := hs.2.2.2.2 (by omega)
  injection e with e; injection e with e1 e2; subst e1 e2
  have := hat k (.bool x) (by rw [xV, List.getElem?_map, hx]; rfl)
  simpa using this
 have HR : Hid (l.getD (k : Int).toNat false = x) := by unfold Hid; rw [Int.toNat_natCast, List.getD_eq_getElem?_getD, hx]; rfl
 show Calls Tryz.prog 153 #[.int .i64 (k : Int), .pointer (some ⟨b, 0, none⟩)] W _
 clear hs hx hll h0 h1
 go_enter Tryz.func153, Tryz.ntmps153
 go_wp2_with fail
 go_ret
 exact ⟨by rw [HR.out]; rfl, 0, rfl⟩
def EpR (w2 : World) (ds : List Dv) (es : List Int) (v : Int) (n gk : Nat) (iv : Value) (wr : World) : Prop := ∃ i : Nat, iv = .int .i64 i ∧ i ≤ n ∧ gk = n - i ∧ Hid (Below w2.heap.size w2 wr) ∧ Hid (∀ (j : Nat) (x : Dv), j < i → ds[j]? = some x → uM x.kind = true → Rea ds es v x.a → yx es x.a = true)
theorem l9 (An Ad Ae : Option Addr) (nn cn nd cd ne ce : Nat) (ds : List Dv) (es : List Int) (v : Int) (w : World) (hd : Sl w w.heap.size 5 Ad nd cd (ds.flatMap Dv.cells)) (he : Sl w w.heap.size 1 Ae ne ce (zK es))
 (hnn : nn ≤ 10000) (hends : xG nn ds) (ha : AOk nn ds) (hv : 0 ≤ v ∧ v < nn) (hes : ∀ u ∈ es, 0 ≤ u ∧ u < nn) :
 Calls Tryz.prog 138 #[.agg #[.slice An nn cn, .slice Ad nd cd], .int .i64 v, .slice Ae ne ce] w fun e w' => e = .returned (.bool (xZ ds es v)) ∧ Below w.heap.size w w' := by
 have HLD := iD (hd.len (fun _ => rfl) (by decide))
 have hdl := hd.le
 have HB : Hid (Below w.heap.size w (((w.alloc (.cells #[.slice An nn cn, .slice Ad nd cd] 30)).alloc (.cells #[.slice Ae ne ce] 22)).alloc (.cells #[.int .i64 v] 3))) := (((Below.refl _ _).alloc lR _).alloc (by simp) _).alloc (by simp; omega) _
 have HK := iD (((Blk.new w 30 #[.slice An nn cn, .slice Ad nd cd]).alloc (.cells #[.slice Ae ne ce] 22)).alloc (.cells #[.int .i64 v] 3))
 have hsz : (w.alloc (.cells #[.slice An nn cn, .slice Ad nd cd] 30)).heap.size = w.heap.size + 1 := by simp
 have hsz2 : ((w.alloc (.cells #[.slice An nn cn, .slice Ad nd cd] 30)).alloc (.cells #[.slice Ae ne ce] 22)).heap.size = w.heap.size + 1 + 1 := by simp
 have HE2 := iD ((Blk.new (w.alloc (.cells #[.slice An nn cn, .slice Ad nd cd] 30)) 22 #[.slice Ae ne ce]).alloc (.cells #[.int .i64 v] 3))
 rw [hsz] at HE2
 have HV : Hid (Sl (((w.alloc (.cells #[.slice An nn cn, .slice Ad nd cd] 30)).alloc (.cells #[.slice Ae ne ce] 22)).alloc (.cells #[.int .i64 v] 3)) (w.heap.size + 1 + 1 + 1) 1 (some ⟨w.heap.size + 1 + 1, 0, none⟩) 1 1 (zK [v])) := by
  have := Blk.new ((w.alloc (.cells #[.slice An nn cn, .slice Ad nd cd] 30)).alloc (.cells #[.slice Ae ne ce] 22)) 3 #[.int .i64 v]
  rw [hsz2] at this
  refine ⟨rfl, Nat.le_refl _, by decide, (fun e => by cases e), fun _ => ⟨_, 0, rfl, by omega, fun j u hu => ?_⟩⟩
  rw [Nat.zero_add, this.cell j]
  rcases j with _ | j
  ·exact hu
  ·simp [zK] at hu
 have hsz3 : (((w.alloc (.cells #[.slice An nn cn, .slice Ad nd cd] 30)).alloc (.cells #[.slice Ae ne ce] 22)).alloc (.cells #[.int .i64 v] 3)).heap.size = w.heap.size + 1 + 1 + 1 := by simp
 have HD := iD hd; have HE := iD he; have HEN := iD hends; have HA := iD ha; have HVR := iD hv; have HES := iD hes
 clear hd he hends ha hv hes hsz hsz2
 have hmf : ∀ (fn : Fn) (first cap : Array Value) (w : World), (Instr.makeFunc fn first cap).run Tryz.prog w = .ok (.func fn first cap) w := fun _ _ _ _ => rfl
 go_enter Tryz.func138, Tryz.ntmps138
 go_wp2_with fail
 have HZ3 := iD hsz3
 clear hsz3
 generalize World.alloc (World.alloc (World.alloc w _) _) _ = W at *
 have hzW := HB.out.size
 refine (sQ An Ad (some ⟨w.heap.size + 1 + 1, 0, none⟩) nn cn nd cd 1 1 W.heap.size W.heap.size 152 150 #[] #[.pointer (some ⟨w.heap.size + 1, 0, none⟩)] ds [v] (fun _ => true) (fun u => yx es u) W ((HD.out.below HB.out lR).more hzW) lR (by have := HV.out; rw [HZ3.out]; exact this) lR hnn (by decide) HEN.out (fun u hu => by rw [List.mem_singleton.1 hu]; exact HVR.out) (enters_of Tryz.func152 (by kernel_rfl) rfl) (enters_of Tryz.func150 (by kernel_rfl) rfl) ?_ ?_).mono ?_
 ·intro W' i _ _
  refine (km i W').mono ?_
  rintro e w' ⟨rfl, rfl⟩
  exact ⟨rfl, Below.refl _ _⟩
 ·intro W' u hb _ _
  refine (qA Ae ne ce w.heap.size (w.heap.size + 1) es u W' ((hb.cell (p := ⟨w.heap.size + 1, 0, none⟩) HE2.out.lt).trans (HE2.out.cell 0)) ((HE.out.below HB.out lR).below hb hzW)).mono ?_
  rintro e w' ⟨rfl, rfl⟩
  exact ⟨rfl, Below.refl _ _⟩
 rintro e w1 ⟨AR, l, rfl, hll, hO, hR, hb1⟩
 have HB1 := iD (HB.out.trans (hb1.out.mono hzW))
 have HK1 := iD (HK.out.below hb1.out HK.out.lt)
 have HE1 := iD (HE2.out.below hb1.out HE2.out.lt)
 have HLL := iD hll
 have HRE : Hid (∀ u : Nat, u < nn → (l[u]? = some true ↔ Rea ds es v u)) := hR.out
 have HOS := iD hO.out.sl
 have HGO : Hid (∃ go, AR = some ⟨go, 0, none⟩) := by obtain ⟨g, e, _⟩ := rh hO.out (by have := HVR.out; omega); exact ⟨g, e⟩
 clear hb1 HB HK HE2 HV HZ3 hzW hll hO hR
 go_upto_region 4 with (fail)
 have HK2 := iD (HK1.out.alloc (.cells #[.slice AR nn nn] 71))
 have HRB := iD (Blk.new w1 71 #[.slice AR nn nn])
 have HB2 := iD (HB1.out.alloc HB1.out.size (.cells #[.slice AR nn nn] 71))
 have HE3 := iD (HE1.out.alloc (.cells #[.slice AR nn nn] 71))
 have HOS2 : Hid (Sl (w1.alloc (.cells #[.slice AR nn nn] 71)) w1.heap.size 1 AR nn nn (xR l)) := HOS.out.alloc lR _
 have hw12 : w1.heap.size ≤ (w1.alloc (.cells #[.slice AR nn nn] 71)).heap.size := by simp
 generalize World.alloc w1 _ = w2 at *
 obtain ⟨rb, hrb⟩ : ∃ x, x = w1.heap.size := ⟨_, rfl⟩
 rw [← hrb] at HRB HOS2 hw12 ⊢
 clear hrb HOS HB1 HK1 HE1
 have hz2 := HB2.out.size
 have k1 : w2.cell? ⟨w.heap.size, 1, none⟩ = some (.slice Ad nd cd) := HK2.out.cell 1
 go_wp2_with fail
 clear k1
 go_loopg [23] nd (EpR w2 ds es v nd)
 case atStart => exact ⟨0, rfl, Nat.zero_le _, rfl, Below.refl _ _, fun j x hj => by omega⟩
 case round =>
  obtain ⟨i, rfl, hi, rfl, hb, hno⟩ := hrel
  by_cases hlt : i < nd; rotate_left
  ·obtain rfl : i = nd := by omega
   have hii : decide (i < i) = false := by simp
   have HPB : Hid (es.any (fun u => l.getD u.toNat false) = xZ ds es v) := by
    unfold Hid
    rw [Bool.eq_iff_iff, sL, List.any_eq_true]
    have key : ∀ u ∈ es, (l.getD u.toNat false = true ↔ Rea ds es v u) := fun u hu => by
     obtain ⟨h0, h1⟩ := HES.out u hu
     obtain ⟨k, rfl⟩ := Int.eq_ofNat_of_zero_le h0
     rw [← HRE.out k (by omega), Int.toNat_natCast, List.getD_eq_getElem?_getD]
     rcases l[k]? with _ | x
     ·simp
     ·simp
    constructor
    ·rintro ⟨u, hu, h⟩
     exact ⟨fun j x hx hk hr => hno.out j x (by have := (List.getElem?_eq_some_iff.1 hx).1; rw [HLD.out] at this; exact this) hx hk hr, u, hu, (key u hu).1 h⟩
    ·rintro ⟨_, u, hu, h⟩
     exact ⟨u, hu, (key u hu).2 h⟩
   have e0 : wr.cell? ⟨w.heap.size + 1, 0, none⟩ = some (.slice Ae ne ce) := (HE3.out.below hb.out HE3.out.lt).cell 0
   go_wp2_with fail
   clear e0
   refine (sV (fun u => 0 ≤ u ∧ u < nn) 153 #[.pointer (some ⟨rb, 0, none⟩)] (fun u => l.getD u.toNat false) (enters_of Tryz.func153 (by kernel_rfl) rfl) Ae ne ce w.heap.size es wr ((HE.out.below HB2.out lR).below hb.out hz2) HES.out (fun W' x hx hb' => ?_)).mono ?_
   ·have hcl : W'.cell? ⟨rb, 0, none⟩ = some (.slice AR nn nn) := (((HRB.out.below hb.out HRB.out.lt).below hb' (Nat.lt_of_lt_of_le HRB.out.lt hb.out.size))).cell 0
    have hsl := (HOS2.out.below hb.out hw12).below hb' (Nat.le_trans hw12 hb.out.size)
    obtain ⟨go, hgo⟩ := HGO.out
    subst hgo
    exact mJ rb go nn nn rb l x W' hcl hsl hx.1 hx.2
   ·rintro e w5 ⟨rfl, q, rfl⟩
    rw [HPB.out]
    go_wp2_with fail
    go_ret
    exact ⟨rfl, below_drewN (HB2.out.trans (hb.out.mono hz2)) q⟩
  obtain ⟨b0, off, x, rfl, hb0, hx, hc⟩ := ((HD.out.below HB2.out lR).below hb.out hz2).at (k := i) (fun _ => rfl) (by decide) hlt
  have HX := iD hx
  have har := HA.out x (List.mem_of_getElem? hx)
  obtain ⟨nm, kd, a, b, co⟩ := x
  simp only at har
  obtain ⟨a, rfl⟩ := Int.eq_ofNat_of_zero_le har.1
  have han : a < nn := by omega
  have c0 : wr.cell? ⟨b0, off + i * 5, none⟩ = some (.string nm) := hc 0 _ rfl
  have c1 : wr.cell? ⟨b0, off + i * 5 + 1, none⟩ = some (.int .i64 kd) := hc 1 _ rfl
  have c2 : wr.cell? ⟨b0, off + i * 5 + 2, none⟩ = some (.int .i64 a) := hc 2 _ rfl
  have c3 : wr.cell? ⟨b0, off + i * 5 + 3, none⟩ = some (.int .i64 b) := hc 3 _ rfl
  have c4 : wr.cell? ⟨b0, off + i * 5 + 4, none⟩ = some (.int .i64 co) := hc 4 _ rfl
  clear hc hx hb0 har
  go_upto_region 7 with (fail)
  clear c0 c1 c2 c3 c4
  have HDV := iD (Blk.new wr 38 #[.string nm, .int .i64 kd, .int .i64 a, .int .i64 b, .int .i64 co])
  have HBN := iD (hb.out.alloc hb.out.size (.cells #[.string nm, .int .i64 kd, .int .i64 a, .int .i64 b, .int .i64 co] 38))
  generalize World.alloc wr _ = W3 at *
  obtain ⟨vb, hvb⟩ : ∃ x, x = wr.heap.size := ⟨_, rfl⟩
  rw [← hvb] at HDV ⊢
  clear hvb
  have d1 : W3.cell? ⟨vb, 1, none⟩ = some (.int .i64 kd) := HDV.out.cell 1
  have d2 : W3.cell? ⟨vb, 2, none⟩ = some (.int .i64 a) := HDV.out.cell 2
  have r0 : W3.cell? ⟨rb, 0, none⟩ = some (.slice AR nn nn) := (HRB.out.below HBN.out HRB.out.lt).cell 0
  have hsl := HOS2.out.below HBN.out hw12
  obtain ⟨br, ofr, hAR, hbr, hat⟩ := hsl.2.2.2.2 (by omega)
  obtain ⟨rx, hrx⟩ : ∃ rx, l[a]? = some rx := ⟨_, List.getElem?_eq_getElem (by rw [HLL.out]; exact han)⟩
  have ra : W3.cell? ⟨br, ofr + a, none⟩ = some (.bool rx) := hat a (.bool rx) (by rw [xV, List.getElem?_map, hrx]; rfl)
  have HRX := iD hrx
  have HARS := iD hAR
  subst hAR
  clear hat hsl hbr hrx hb
  rcases hk5 : (kd == 5) with _ | _
  ·rcases hk6 : (kd == 6) with _ | _
   ·have HNX : Hid (∀ (j : Nat) (x : Dv), j < i + 1 → ds[j]? = some x → uM x.kind = true → Rea ds es v x.a → yx es x.a = true) := fun j x hj hx hs hr => by
     rcases Nat.lt_succ_iff_lt_or_eq.1 hj with h | rfl
     ·exact hno.out j x h hx hs hr
     ·rw [HX.out] at hx; injection hx with hx; subst hx
      unfold uM at hs; simp only at hs; rw [hk5, hk6] at hs; cases hs
    go_wp2_with fail
    go_roundg (nd - (i + 1))
    case rel => exact ⟨i + 1, by go_num, by omega, rfl, HBN, HNX⟩
    case measure => omega
   ·rcases rx with _ | _
    ·have HNX : Hid (∀ (j : Nat) (x : Dv), j < i + 1 → ds[j]? = some x → uM x.kind = true → Rea ds es v x.a → yx es x.a = true) := fun j x hj hx hs hr => by
      rcases Nat.lt_succ_iff_lt_or_eq.1 hj with h | rfl
      ·exact hno.out j x h hx hs hr
      ·rw [HX.out] at hx; injection hx with hx; subst hx
       have := (HRE.out a han).2 hr; rw [HRX.out] at this; cases this
     go_wp2_with fail
     go_roundg (nd - (i + 1))
     case rel => exact ⟨i + 1, by go_num, by omega, rfl, HBN, HNX⟩
     case measure => omega
    have HEA := iD (qA Ae ne ce w.heap.size (w.heap.size + 1) es a W3 ((HE3.out.below HBN.out HE3.out.lt).cell 0) ((HE.out.below HB2.out lR).below HBN.out hz2))
    rcases he : yx es a with _ | _
    ·have HF : Hid (xZ ds es v = false) := tn fun h => by
      have := h.1 i _ HX.out (by unfold uM; simp only; rw [hk5, hk6]; rfl) ((HRE.out a han).1 HRX.out)
      simp only at this
      rw [he] at this; cases this
     rw [he] at HEA
     clear he
     go_wp2_with fail
     refine HEA.out.mono ?_
     rintro e w5 ⟨rfl, rfl⟩
     go_wp2_with fail
     go_ret
     exact ⟨zP HF.out.symm, HB2.out.trans (HBN.out.mono hz2)⟩
    ·have HNX : Hid (∀ (j : Nat) (x : Dv), j < i + 1 → ds[j]? = some x → uM x.kind = true → Rea ds es v x.a → yx es x.a = true) := fun j x hj hx hs hr => by
      rcases Nat.lt_succ_iff_lt_or_eq.1 hj with h | rfl
      ·exact hno.out j x h hx hs hr
      ·rw [HX.out] at hx; injection hx with hx; subst hx
       exact he
     rw [he] at HEA
     clear he
     go_wp2_with fail
     refine HEA.out.mono ?_
     rintro e w5 ⟨rfl, rfl⟩
     go_wp2_with fail
     go_roundg (nd - (i + 1))
     case rel => exact ⟨i + 1, by go_num, by omega, rfl, HBN, HNX⟩
     case measure => omega
  ·rcases rx with _ | _
   ·have HNX : Hid (∀ (j : Nat) (x : Dv), j < i + 1 → ds[j]? = some x → uM x.kind = true → Rea ds es v x.a → yx es x.a = true) := fun j x hj hx hs hr => by
     rcases Nat.lt_succ_iff_lt_or_eq.1 hj with h | rfl
     ·exact hno.out j x h hx hs hr
     ·rw [HX.out] at hx; injection hx with hx; subst hx
      have := (HRE.out a han).2 hr; rw [HRX.out] at this; cases this
    go_wp2_with fail
    go_roundg (nd - (i + 1))
    case rel => exact ⟨i + 1, by go_num, by omega, rfl, HBN, HNX⟩
    case measure => omega
   have HEA := iD (qA Ae ne ce w.heap.size (w.heap.size + 1) es a W3 ((HE3.out.below HBN.out HE3.out.lt).cell 0) ((HE.out.below HB2.out lR).below HBN.out hz2))
   rcases he : yx es a with _ | _
   ·have HF : Hid (xZ ds es v = false) := tn fun h => by
     have := h.1 i _ HX.out (by unfold uM; simp only; rw [hk5]; rfl) ((HRE.out a han).1 HRX.out)
     simp only at this
     rw [he] at this; cases this
    rw [he] at HEA
    clear he
    go_wp2_with fail
    refine HEA.out.mono ?_
    rintro e w5 ⟨rfl, rfl⟩
    go_wp2_with fail
    go_ret
    exact ⟨zP HF.out.symm, HB2.out.trans (HBN.out.mono hz2)⟩
   ·have HNX : Hid (∀ (j : Nat) (x : Dv), j < i + 1 → ds[j]? = some x → uM x.kind = true → Rea ds es v x.a → yx es x.a = true) := fun j x hj hx hs hr => by
     rcases Nat.lt_succ_iff_lt_or_eq.1 hj with h | rfl
     ·exact hno.out j x h hx hs hr
     ·rw [HX.out] at hx; injection hx with hx; subst hx
      exact he
    rw [he] at HEA
    clear he
    go_wp2_with fail
    refine HEA.out.mono ?_
    rintro e w5 ⟨rfl, rfl⟩
    go_wp2_with fail
    go_roundg (nd - (i + 1))
    case rel => exact ⟨i + 1, by go_num, by omega, rfl, HBN, HNX⟩
    case measure => omega
end
section
open Go.RowKit
noncomputable def xd (ds : List Dv) (es z : List Int) : List Int := z.filter fun v => !xZ ds es v
theorem uC (ds : List Dv) (es : List Int) {z : List Int} {i : Nat} {v : Int} (h : z[i]? = some v) : xd ds es (z.take (i + 1)) = xd ds es (z.take i) ++ if xZ ds es v = true then [] else [v] := by
 unfold xd
 rw [zt h, List.filter_append]
 congr 1
 rcases hp : xZ ds es v with _ | _ <;> simp [hp]
theorem zQ.base1 {w : World} {b n c : Nat} {A : Option Addr} {l : List Int} (h : zQ w (b + 1) A n c l) : zQ w b A n c l := ⟨h.1, h.2.imp id fun ⟨g, cap, cur, hv, hb, r⟩ => ⟨g, cap, cur, hv, by omega, r⟩⟩
theorem pR {P : Program} {Q : Exit → Act → World → Prop} {a : Act} {w : World} {c X : Code} (l : Nat) (J : Act → World → Prop) (μ : Act → World → Nat) (hf : findLabel c l = some (Code.skip.seq X))
 (first : (∀ a w, J a w → X.wp P (Exit.jump l J Q) a w) → c.wp P (Exit.jump l J Q) a w)
 (pass : ∀ a w, J a w → X.wp P (Exit.jump l (fun a' w' => J a' w' ∧ μ a' w' < μ a w) Q) a w) : (Code.scope c).wp P Q a w :=
 wp_scope_jumps l J μ hf (first fun a w h => Code.wp_mono (fun e _ _ hq => by
  cases e with
  | goto l' => exact ⟨hq.1, hq.2.1⟩
  | _ => exact hq) (pass a w h)) fun a w h => wp_seq (wp_skip (pass a w h))
def kQ : Value → Int | .int _ q => q | _ => 0
def EmJ (w : World) (An Ad Az Ae : Option Addr) (nn cn nd cd n c ne ce : Nat) (ds : List Dv) (es z : List Int) (a : Act) (wr : World) : Prop :=
 ∃ (i m co : Nat) (Ao : Option Addr) (u9 u10 u11 u12 u13 u14 u15 u16 u17 u18 u19 u20 u21 u22 u23 u24 u25 u26 u27 u28 u29 u30 : Value), a = ⟨#[.agg #[.slice An nn cn, .slice Ad nd cd], .slice Az n c, .slice Ae ne ce, .pointer (some ⟨w.heap.size, 0, none⟩), undef, undef, .slice none 0 0, .slice Ao m co, .int .i64 i, u9, u10, u11, u12, u13, u14, u15, u16, u17, u18, u19, u20, u21, u22, u23, u24, u25, u26, u27, u28, u29, u30], []⟩ ∧ i ≤ n ∧ m ≤ i ∧ Hid (Blk wr w.heap.size 30 #[.slice An nn cn, .slice Ad nd cd]) ∧ Hid (Below w.heap.size w wr) ∧ Hid (zQ wr (w.heap.size + 1) Ao m co (xd ds es (z.take i)))
theorem kJ (An Ad Az Ae : Option Addr) (nn cn nd cd n c ne ce : Nat) (ds : List Dv) (es z : List Int) (w : World) (hd : Sl w w.heap.size 5 Ad nd cd (ds.flatMap Dv.cells)) (hz : Sl w w.heap.size 1 Az n c (zK z)) (he : Sl w w.heap.size 1 Ae ne ce (zK es))
 (hnn : nn ≤ 10000) (hends : xG nn ds) (ha : AOk nn ds) (hzv : ∀ v ∈ z, 0 ≤ v ∧ v < nn) (hes : ∀ u ∈ es, 0 ≤ u ∧ u < nn) (hn : n ≤ 10000) :
 Calls Tryz.prog 118 #[.agg #[.slice An nn cn, .slice Ad nd cd], .slice Az n c, .slice Ae ne ce] w (ul w (xd ds es z)) := by
 have HLZ := iD (hz.len (fun _ => rfl) (by decide))
 have hzl := hz.le
 have HB0 : Hid (Below w.heap.size w (w.alloc (.cells #[.slice An nn cn, .slice Ad nd cd] 30))) := (Below.refl _ _).alloc lR _
 have HK0 := iD (Blk.new w 30 #[.slice An nn cn, .slice Ad nd cd])
 have HD := iD hd; have HZ := iD hz; have HE := iD he; have HEN := iD hends; have HA := iD ha; have HZV := iD hzv; have HES := iD hes
 have HPR := iD (fun (W : World) (hb : Below w.heap.size w W) (v : Int) (hv : v ∈ z) => l9 An Ad Ae nn cn nd cd ne ce ds es v W ((hd.below hb lR).more hb.size) ((he.below hb lR).more hb.size) hnn hends ha (hzv v hv) hes)
 clear hd hz he hends ha hzv hes
 go_enter Tryz.func118, Tryz.ntmps118
 go_wp2_with fail
 refine pR 0 (EmJ w An Ad Az Ae nn cn nd cd n c ne ce ds es z) (fun a' _ => n - (kQ (a'.tmps.getD 8 undef)).toNat) rfl ?_ ?_
 ·intro H
  go_wp2_with fail
  go_step3
  rename_i K hK
  refine hK _ _ (H _ _ ⟨0, 0, 0, none, _, _, _, _, _, _, _, _, _, _, _, _, _, _, _, _, _, _, _, _, _, _, rfl, Nat.zero_le _, Nat.le_refl _, HK0, HB0, World.ownsRow_nil _ _ _ _⟩)
 ·rintro a' wr ⟨i, m, co, Ao, u9, u10, u11, u12, u13, u14, u15, u16, u17, u18, u19, u20, u21, u22, u23, u24, u25, u26, u27, u28, u29, u30, rfl, hi, hmi, HK, HB, HI⟩
  by_cases hlt : i < n; rotate_left
  ·obtain rfl : i = n := by omega
   have hii : ((i : Int) == (i : Int)) = true := by simp
   have hii2 : (i == i) = true := by simp
   go_wp2_with fail
   simp only [Exit.jump]
   go_ret
   have := HI.out.base1
   rw [List.take_of_length_le (by rw [HLZ.out]; exact Nat.le_refl _)] at this
   exact uY this.len this HB.out
  have q0 : ((i : Int) == (n : Int)) = false := by simp; omega
  have q1 : (i == n) = false := by simp; omega
  obtain ⟨bz, oz, v, rfl, hbz, hx, hc⟩ := (HZ.out.below HB.out lR).at1 hlt
  have HX := iD hx
  have HVM := iD (List.mem_of_getElem? hx)
  have HC := iD hc
  clear hx hc
  go_upto_region 5 with (fail)
  clear q0 q1
  refine za (S := fun W' => W'.cell? ⟨w.heap.size, 0, none⟩ = some (.slice An nn cn) ∧ W'.cell? ⟨w.heap.size, 1, none⟩ = some (.slice Ad nd cd) ∧ W'.cell? ⟨bz, oz + i, none⟩ = some (.int .i64 v)) (J := []) (n := _) ((1, true) :: (2, true) :: (5, true) :: (0, true) :: (3, true) :: (4, true) :: (6, false) :: (7, true) :: []) (by as_aux_lemma => kernel_rfl) (by rfl) (zM (k := 1) (by go_simp; rfl) (zM (k := 8) (by go_simp; rfl) (zM (k := 2) (by go_simp; rfl) (zM (k := 3) (by go_simp; rfl) yH)))) ?_ (fun _ _ _ _ _ h => h) (fun Q2 A hsz hbase hn2 AA => ?_)
  ·exact ⟨HK.out.cell 0, HK.out.cell 1, HC.out⟩
  try dsimp only at AA
  obtain ⟨b1, b8, b2, b3, -⟩ := hbase
  refine oM 1 15 ?_ rfl rfl rfl (zB rfl) AA (fun ρ AB => ?_) ?_
  rotate_left
  ·(have e1 := tm AB hsz 1 rfl (zF b1); exact e1)
  refine oM 2 16 ?_ rfl rfl rfl (zB rfl) AA (fun ρ AB => ?_) ?_
  rotate_left
  ·(have e8 := tm AB hsz 8 rfl (zC rfl (zF b8)); exact e8)
  refine oM 5 19 ?_ rfl rfl rfl (zB rfl) AA (fun ρ AB => ?_) ?_
  rotate_left
  ·(have e2 := tm AB hsz 2 rfl (zC rfl (zC rfl (zF b2))); exact e2)
  refine oT 0 14 ?_ rfl rfl (zB rfl) AA (fun ρ AB w hSw => ?_) ?_
  rotate_left
  ·(have e3 := tm AB hsz 3 rfl (zC rfl (zC rfl (zC rfl (zF b3)))); clear AB; (try dsimp only at hSw); have k0 := hSw.1; have k1 := hSw.2.1; clear hSw; go_simp; try with_reducible rfl)
  refine oT 3 17 ?_ rfl rfl (zB rfl) AA (fun ρ AB w hSw => ?_) ?_
  rotate_left
  ·(have e15 := tm AB hsz 15 rfl (zC rfl (zC rfl (zC rfl zA))); have e16 := tm AB hsz 16 rfl (zC rfl (zC rfl zA)); clear AB; (try dsimp only at hSw); go_simp; try with_reducible rfl)
  refine oT 4 18 ?_ rfl rfl (zB rfl) AA (fun ρ AB w hSw => ?_) ?_
  rotate_left
  ·(have e17 := tm AB hsz 17 rfl zA; clear AB; (try dsimp only at hSw); have hc := hSw.2.2; clear hSw; go_simp; try with_reducible rfl)
  refine yR (i := 6) (d := 20) (vs := ?_) rfl rfl rfl (zB rfl) (fun ρ AB => ?_) ?_ ?_
  rotate_left
  ·(have e14 := tm AB hsz 14 rfl (zC rfl (zC rfl zA)); have e18 := tm AB hsz 18 rfl zA; have e19 := tm AB hsz 19 rfl (zC rfl (zC rfl (zC rfl zA))); simp only [List.map_toArray, List.map_cons, List.map_nil, e14, e18, e19]; try with_reducible rfl)
  ·(intro w; go_simp)
  refine (HPR.out wr.drew HB.out.drew v HVM.out).mono ?_
  rintro e w3 ⟨rfl, hb3⟩
  have HB3 := iD (HB.out.drew.trans (hb3.mono HB.out.drew.size))
  have HK3 := iD ((HK.out.below (Below.refl wr.heap.size wr).drew HK.out.lt).below hb3 HK.out.lt)
  have HI3 := iD ((HI.out.later (Below.refl _ _).drew).later hb3)
  have HC3 : Hid (w3.cell? ⟨bz, oz + i, none⟩ = some (.int .i64 v)) := (hb3.cell (p := ⟨bz, oz + i, none⟩) (by have := HB.out.size; exact Nat.lt_of_lt_of_le hbz this)).trans HC.out
  clear hb3 HB HK HI HC
  refine ⟨_, rfl, fun _ => ?_, fun AA' => ?_⟩
  ·exact ⟨HK3.out.cell 0, HK3.out.cell 1, HC3.out⟩
  replace AA := AA' rfl
  clear AA'
  try dsimp only at AA
  refine oT 7 21 ?_ rfl rfl (zB rfl) AA (fun ρ AB w hSw => ?_) ?_
  rotate_left
  ·(have e20 := tm AB hsz 20 rfl zA; clear AB; (try dsimp only at hSw); go_simp; try with_reducible rfl)
  refine yG hn2 ?_
  clear AA hn2 b1 b8 b2 b3 hsz A Q2
  simp only [yF, zu, yQ, xO, xP]
  rcases hp : xZ ds es v with _ | _
  ·have HT : Hid (xd ds es (z.take (i + 1)) = xd ds es (z.take i) ++ [v]) := by have := uC ds es HX.out; rw [hp] at this; unfold Hid; simpa using this
   have hc3 := HC3.out
   have hzs := HB3.out.size
   go_wp2_with (at_builtin; go_must (refine zW rfl (.tmp 22) (.tmp 27) rfl yX (by rfl) (HI3.out.alloc _) (by rfl) (Sl.newest (n := 1) (by simp) (by rfl) (by decide)) (by simp [Value.oneCell']) (by omega) (by omega) (by simp; omega) ?_; intro A2 co2 w5 hown5 hgr5 hat5; have HO5 := iD hown5; have HG5 := iD hgr5; clear hown5 hgr5 hat5))
   have HB5 : Hid (Below w.heap.size w w5) := (HB3.out.alloc hzs _).trans ⟨HG5.out.os, HG5.out.tape, HG5.out.output, HG5.out.size, fun t ht => HG5.out.block t (by simp; omega) (fun e => by have := (HI3.out.lt t e.symm).1; omega)⟩
   have HK5 : Hid (Blk w5 w.heap.size 30 #[.slice An nn cn, .slice Ad nd cd]) := (HK3.out.alloc _).keep (HG5.out.block _ (by simp; have := HK3.out.lt; omega) (fun e => by have := (HI3.out.lt _ e.symm).1; omega))
   have HO6 : Hid (zQ w5 (w.heap.size + 1) A2 (m + 1) co2 (xd ds es (z.take (i + 1)))) := by
    unfold Hid
    rw [HT.out]
    unfold zQ
    rw [zw]
    exact HO5.out
   go_step3
   refine ⟨rfl, ⟨i + 1, m + 1, co2, A2, _, _, _, _, _, _, _, _, _, _, _, _, _, _, _, _, _, _, _, _, _, _, by go_num, by omega, by omega, HK5, HB5, HO6⟩, ?_⟩
   simp only [Array.getD_eq_getD_getElem?, kQ]
   simp
   omega
  ·have HT : Hid (xd ds es (z.take (i + 1)) = xd ds es (z.take i)) := by have := uC ds es HX.out; rw [hp] at this; unfold Hid; simpa using this
   have HO6 : Hid (zQ w3 (w.heap.size + 1) Ao m co (xd ds es (z.take (i + 1)))) := by rw [HT.out]; exact HI3
   go_wp2_with fail
   go_step3
   refine ⟨rfl, ⟨i + 1, m, co, Ao, _, _, _, _, _, _, _, _, _, _, _, _, _, _, _, _, _, _, _, _, _, _, by go_num, by omega, by omega, HK3, HB3, HO6⟩, ?_⟩
   simp only [Array.getD_eq_getD_getElem?, kQ]
   simp
   omega
end
end Go.Proofs.YtepicjpdhpojnaaGreatDoor
