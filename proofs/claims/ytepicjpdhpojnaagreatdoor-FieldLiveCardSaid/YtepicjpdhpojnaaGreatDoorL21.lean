import Derived.Test.YtepicjpdhpojnaaGreatDoorL20
import Derived.Test.YtepicjpdhpojnaaGreatDoorShelf
import Derived.ScopeJumps
import Derived.WalkMore
set_option maxRecDepth 100000
set_option maxHeartbeats 8000000
namespace Go.Proofs.YtepicjpdhpojnaaGreatDoor
open Go.RowKit
theorem intsPost_is {w w' : World} {l : List Int} {A : Option Addr} {n c : Nat} (hl : l.length = n) (h : IntsO w' w.heap.size A n c l) (hb : Below w.heap.size w w') : IntsPost w l (.returned (.slice A n c)) w' := by subst hl; exact ⟨A, c, rfl, h, hb⟩
structure ZhI (nn : Nat) (ds : List Dv) (gs z : List Int) (out : List Bool) : Prop where
 len : out.length = nn
 sound : ∀ v, marked out v → Rgn ds gs z v
 base : ∀ v ∈ z, marked out v
def okD (ds : List Dv) (gs : List Int) (out : List Bool) (j : Nat) : Prop := ∀ x, ds[j]? = some x → joinsB x.kind = true → hasB gs j = false → (marked out x.a ↔ marked out x.b)
theorem acr_a {x : Dv} (hj : joinsB x.kind = true) : acrB x x.a = x.b := by unfold acrB; rw [if_neg (by rw [hj]; simp), if_pos rfl]
theorem acr_b {x : Dv} (hj : joinsB x.kind = true) (hne : x.b ≠ x.a) : acrB x x.b = x.a := by unfold acrB; rw [if_neg (by rw [hj]; simp), if_neg (fun e => hne e.symm), if_pos rfl]
theorem acr_two {x : Dv} {u : Int} (h : 0 ≤ acrB x u) : joinsB x.kind = true ∧ (u = x.a ∧ acrB x u = x.b ∨ u = x.b ∧ acrB x u = x.a) := by
 unfold acrB at h ⊢
 split at h
 ·omega
 next hj =>
 have hj : joinsB x.kind = true := by simpa using hj
 rw [if_neg (by rw [hj]; simp)]
 split at h
 ·next e => exact ⟨hj, .inl ⟨e.symm, by rw [if_pos e]⟩⟩
 next e =>
 split at h
 ·next e2 => exact ⟨hj, .inr ⟨e2.symm, by rw [if_neg e, if_pos e2]⟩⟩
 ·omega
theorem ZhI.final {nn : Nat} {ds : List Dv} {gs z : List Int} {out : List Bool} (h : ZhI nn ds gs z out) (hok : ∀ j, okD ds gs out j) (v : Int) : marked out v ↔ Rgn ds gs z v := by
 refine ⟨h.sound v, fun hr => ?_⟩
 induction hr with
 | base hv => exact h.base _ hv
 | step _ _ hx hU h0 ih =>
  rename_i u i x _ _
  obtain ⟨hj, ⟨e, e2⟩ | ⟨e, e2⟩⟩ := acr_two h0
  ·rw [e2]; rw [e] at ih
   exact (hok i x hx hj (by simpa using hU)).1 ih
  ·rw [e2]; rw [e] at ih
   exact (hok i x hx hj (by simpa using hU)).2 ih
theorem ZhI.mark {nn : Nat} {ds : List Dv} {gs z : List Int} {out out2 : List Bool} {j a b : Nat} {x : Dv} (h : ZhI nn ds gs z out) (hx : ds[j]? = some x) (hj : joinsB x.kind = true) (hg : hasB gs j = false) (ha : x.a = a) (hb : x.b = b) (hne : b ≠ a) (hd : marked out a ∨ marked out b) (hl : out2.length = nn) (h2 : ∀ v, marked out2 v ↔ v = a ∨ v = b ∨ marked out v) : ZhI nn ds gs z out2 := by
 have h1 : acrB x a = b := by rw [← ha, acr_a hj, hb]
 have h3 : acrB x b = a := by rw [← hb, acr_b hj (by rw [ha, hb]; omega), ha]
 have hab : Rgn ds gs z a ∧ Rgn ds gs z b := by
  rcases hd with hm | hm
  ·have := h.sound _ hm
   refine ⟨this, ?_⟩
   have := Rch.step (x := x) (i := j) this rfl hx (by simpa using hg) (by rw [h1]; omega)
   rwa [h1] at this
  ·have := h.sound _ hm
   refine ⟨?_, this⟩
   have := Rch.step (x := x) (i := j) this rfl hx (by simpa using hg) (by rw [h3]; omega)
   rwa [h3] at this
 refine ⟨hl, fun v hv => ?_, fun v hv => (h2 v).2 (.inr (.inr (h.base v hv)))⟩
 rcases (h2 v).1 hv with rfl | rfl | hv
 ·exact hab.1
 ·exact hab.2
 ·exact h.sound v hv
structure ZhM (w : World) (N : Array Value) (go nn : Nat) (out : List Bool) (wr : World) : Prop where
 bn : Blk wr w.heap.size 30 N
 ob : BoolsO wr (w.heap.size + 1) (some ⟨go, 0, none⟩) nn nn out
 bl : Below w.heap.size w wr
section
variable {w wr wr' : World} {N : Array Value} {go nn : Nat} {out : List Bool}
theorem ZhM.later (h : ZhM w N go nn out wr) (hb : Below wr.heap.size wr wr') : ZhM w N go nn out wr' := ⟨h.bn.below hb h.bn.lt, h.ob.later hb, h.bl.trans (hb.mono h.bl.size)⟩
theorem ZhM.put (h : ZhM w N go nn out wr) {k : Nat} (hk : k < nn) (y : Bool) : ZhM w N go nn (out.set k y) (wr.setCell ⟨go, k, none⟩ (.bool y)) := by
 obtain ⟨g, x, e, h1, h2, hx, hc, hf, hst⟩ := h.ob.at hk
 injection e with e; injection e with e; subst e
 exact ⟨h.bn.far (by simp; omega) _, hst y, h.bl.setCell (by simp; omega) _⟩
theorem ZhM.cell (h : ZhM w N go nn out wr) {k : Nat} (hk : k < nn) : ∃ x, out[k]? = some x ∧ wr.cell? ⟨go, k, none⟩ = some (.bool x) ∧ wr.frozen? ⟨go, k, none⟩ = false := by
 obtain ⟨g, x, e, h1, h2, hx, hc, hf, hst⟩ := h.ob.at hk
 injection e with e; injection e with e; subst e
 exact ⟨x, hx, hc, hf⟩
theorem ZhM.ge (h : ZhM w N go nn out wr) (hn : 0 < nn) : w.heap.size < go := by
 obtain ⟨g, x, e, h1, h2, hx, hc, hf, hst⟩ := h.ob.at hn
 injection e with e; injection e with e; subst e
 omega
end
end Go.Proofs.YtepicjpdhpojnaaGreatDoor
namespace Go.Proofs.YtepicjpdhpojnaaGreatDoor
open Go.RowKit
theorem sl_getI {w : World} {B n c : Nat} {A : Option Addr} {l : List Int} (h : Sl w B 1 A n c (intsV l)) (hn : 0 < n) : ∃ b off, A = some ⟨b, off, none⟩ ∧ b < B ∧ ∀ j x, l[j]? = some x → w.cell? ⟨b, off + j, none⟩ = some (.int .i64 x) := by
 obtain ⟨b, off, e, hb, hc⟩ := h.2.2.2.2 hn
 exact ⟨b, off, e, hb, fun j x hx => hc j _ (by unfold intsV; rw [flat1_map, List.getElem?_map, hx]; rfl)⟩
theorem contR_any (R : Int → Prop) (g : Nat) (lb : Array Value) (p : Int → Bool) (eg : ∀ args w, (callFunc g args).run Tryz.prog w = .ok (.enter g args) w) (A : Option Addr) (n c B : Nat) (l : List Int) (w : World) (h : Sl w B 1 A n c (intsV l)) (hR : ∀ u ∈ l, R u)
 (hp : ∀ (W : World) (x : Int), R x → Below w.heap.size w W → FnGives Tryz.prog g lb #[.int .i64 x] (.bool (p x)) W) :
 Calls Tryz.prog 52 #[.slice A n c, .func (.func g) #[] lb] w fun e w' => e = .returned (.bool (l.any p)) ∧ ∃ q, w' = w.drewN q := by
 have hl : l.length = n := h.len (fun _ => rfl) (by decide)
 have hle := h.le
 rcases Nat.eq_zero_or_pos n with rfl | h0
 ·have : l = [] := List.eq_nil_of_length_eq_zero hl
  subst this
  refine (Tryz.slices_ContainsFunc_empty (α := Int) A c (.func (.func g) #[] lb) w).mono ?_
  rintro e w1 ⟨rfl, rfl⟩
  exact ⟨rfl, 0, rfl⟩
 ·obtain ⟨b, off, rfl, hb, hc⟩ := sl_getI h h0
  have hi : 0 < l.length := by omega
  haveI : Inhabited {u : Int // R u} := ⟨⟨l[0]'hi, hR _ (List.getElem_mem hi)⟩⟩
  refine (Tryz.slices_ContainsFunc (α := {u : Int // R u}) (fun x => Value.int .i64 x.1) (fun x => p x.1) g lb eg b off n c (l.pmap (fun u hu => ⟨u, hu⟩) hR) w (fun W x hb => hp W x.1 x.2 hb) (by rw [List.length_pmap]; omega) (by omega) (fun j hj => ?_)).mono ?_
  ·rw [List.length_pmap] at hj
   rw [hc j (l[j]'hj) (List.getElem?_eq_getElem hj)]
   congr 2
   simp [hj]
  ·rintro e w1 ⟨rfl, q, rfl⟩
   refine ⟨?_, q, rfl⟩
   rw [List.take_of_length_le (by rw [List.length_pmap]; omega)]
   congr 2
   rw [Bool.eq_iff_iff, List.any_eq_true, List.any_eq_true]
   constructor
   ·rintro ⟨x, hx, hpx⟩
    obtain ⟨u, hu, rfl⟩ := List.mem_pmap.1 hx
    exact ⟨u, hu, hpx⟩
   ·rintro ⟨u, hu, hpu⟩
    exact ⟨⟨u, hR u hu⟩, List.mem_pmap.2 ⟨u, hu, rfl⟩, hpu⟩
end Go.Proofs.YtepicjpdhpojnaaGreatDoor
namespace Go.Proofs.YtepicjpdhpojnaaGreatDoor
open Go.RowKit
def Rea (ds : List Dv) (es : List Int) (v u : Int) : Prop := Rch ds (fun _ => true) (fun u => hasB es u) [v] u
def srcB (k : Int) : Bool := k == 5 || k == 6
def Ptd (ds : List Dv) (es : List Int) (v : Int) : Prop := (∀ (i : Nat) (x : Dv), ds[i]? = some x → srcB x.kind = true → Rea ds es v x.a → hasB es x.a = true) ∧ ∃ u ∈ es, Rea ds es v u
open Classical in
noncomputable def protB (ds : List Dv) (es : List Int) (v : Int) : Bool := decide (Ptd ds es v)
theorem protB_iff {ds : List Dv} {es : List Int} {v : Int} : protB ds es v = true ↔ Ptd ds es v := by unfold protB; simp
theorem protB_no {ds : List Dv} {es : List Int} {v : Int} (h : ¬ Ptd ds es v) : protB ds es v = false := by unfold protB; simpa using h
theorem ear1_any (Ag : Option Addr) (n c B bb : Nat) (es : List Int) (u : Int) (W : World) (hc : W.cell? ⟨bb, 0, none⟩ = some (.slice Ag n c)) (hs : Sl W B 1 Ag n c (intsV es)) :
 Calls Tryz.prog 150 #[.int .i64 u, .pointer (some ⟨bb, 0, none⟩)] W fun e W' => e = .returned (.bool (hasB es u)) ∧ W = W' := by
 have HC := Lib.hid (contains_any Ag n c B es u W hs)
 clear hs
 go_enter Tryz.func150, Tryz.ntmps150
 go_wp2_with fail
 refine HC.out.mono ?_
 rintro e w1 ⟨rfl, rfl⟩
 go_wp2_with fail
 go_ret
 exact ⟨rfl, rfl⟩
theorem ear2_any (v : Int) (w : World) : Calls Tryz.prog 152 #[.int .i64 v] w fun e w' => e = .returned (.bool true) ∧ w = w' := by
 go_enter Tryz.func152, Tryz.ntmps152
 go_wp2_with fail
 go_ret
 exact ⟨rfl, rfl⟩
theorem ear3_gives (b go n : Nat) (c B : Nat) (l : List Bool) (u : Int) (W : World) (hc : W.cell? ⟨b, 0, none⟩ = some (.slice (some ⟨go, 0, none⟩) n c)) (hs : Sl W B 1 (some ⟨go, 0, none⟩) n c (boolsV l)) (h0 : 0 ≤ u) (h1 : u < n) :
 FnGives Tryz.prog 153 #[.pointer (some ⟨b, 0, none⟩)] #[.int .i64 u] (.bool (l.getD u.toNat false)) W := by
 obtain ⟨k, rfl⟩ := Int.eq_ofNat_of_zero_le h0
 have hk : k < n := by omega
 have hll : l.length = n := by have := hs.1; rw [boolsV_len] at this; omega
 obtain ⟨x, hx⟩ : ∃ x, l[k]? = some x := ⟨_, List.getElem?_eq_getElem (by omega)⟩
 have hcx : W.cell? ⟨go, k, none⟩ = some (.bool x) := by
  obtain ⟨b', off', e, hb, hat⟩ := hs.2.2.2.2 (by omega)
  injection e with e; injection e with e1 e2; subst e1 e2
  have := hat k (.bool x) (by rw [boolsV_map, List.getElem?_map, hx]; rfl)
  simpa using this
 have HR : Hid (l.getD (k : Int).toNat false = x) := by unfold Hid; rw [Int.toNat_natCast, List.getD_eq_getElem?_getD, hx]; rfl
 show Calls Tryz.prog 153 #[.int .i64 (k : Int), .pointer (some ⟨b, 0, none⟩)] W _
 clear hs hx hll h0 h1
 go_enter Tryz.func153, Tryz.ntmps153
 go_wp2_with fail
 go_ret
 exact ⟨by rw [HR.out]; rfl, 0, rfl⟩
def EpR (w2 : World) (ds : List Dv) (es : List Int) (v : Int) (n gk : Nat) (iv : Value) (wr : World) : Prop := ∃ i : Nat, iv = .int .i64 i ∧ i ≤ n ∧ gk = n - i ∧ Hid (Below w2.heap.size w2 wr) ∧ Hid (∀ (j : Nat) (x : Dv), j < i → ds[j]? = some x → srcB x.kind = true → Rea ds es v x.a → hasB es x.a = true)
theorem prot_any (An Ad Ae : Option Addr) (nn cn nd cd ne ce : Nat) (ds : List Dv) (es : List Int) (v : Int) (w : World) (hd : Sl w w.heap.size 5 Ad nd cd (ds.flatMap Dv.cells)) (he : Sl w w.heap.size 1 Ae ne ce (intsV es))
 (hnn : nn ≤ 10000) (hends : EndsOk nn ds) (ha : AOk nn ds) (hv : 0 ≤ v ∧ v < nn) (hes : ∀ u ∈ es, 0 ≤ u ∧ u < nn) :
 Calls Tryz.prog 138 #[.agg #[.slice An nn cn, .slice Ad nd cd], .int .i64 v, .slice Ae ne ce] w fun e w' => e = .returned (.bool (protB ds es v)) ∧ Below w.heap.size w w' := by
 have HLD := Lib.hid (hd.len (fun _ => rfl) (by decide))
 have hdl := hd.le
 have HB : Hid (Below w.heap.size w (((w.alloc (.cells #[.slice An nn cn, .slice Ad nd cd] 30)).alloc (.cells #[.slice Ae ne ce] 22)).alloc (.cells #[.int .i64 v] 3))) := (((Below.refl _ _).alloc (Nat.le_refl _) _).alloc (by simp) _).alloc (by simp; omega) _
 have HK := Lib.hid (((Blk.new w 30 #[.slice An nn cn, .slice Ad nd cd]).alloc (.cells #[.slice Ae ne ce] 22)).alloc (.cells #[.int .i64 v] 3))
 have hsz : (w.alloc (.cells #[.slice An nn cn, .slice Ad nd cd] 30)).heap.size = w.heap.size + 1 := by simp
 have hsz2 : ((w.alloc (.cells #[.slice An nn cn, .slice Ad nd cd] 30)).alloc (.cells #[.slice Ae ne ce] 22)).heap.size = w.heap.size + 1 + 1 := by simp
 have HE2 := Lib.hid ((Blk.new (w.alloc (.cells #[.slice An nn cn, .slice Ad nd cd] 30)) 22 #[.slice Ae ne ce]).alloc (.cells #[.int .i64 v] 3))
 rw [hsz] at HE2
 have HV : Hid (Sl (((w.alloc (.cells #[.slice An nn cn, .slice Ad nd cd] 30)).alloc (.cells #[.slice Ae ne ce] 22)).alloc (.cells #[.int .i64 v] 3)) (w.heap.size + 1 + 1 + 1) 1 (some ⟨w.heap.size + 1 + 1, 0, none⟩) 1 1 (intsV [v])) := by
  have := Blk.new ((w.alloc (.cells #[.slice An nn cn, .slice Ad nd cd] 30)).alloc (.cells #[.slice Ae ne ce] 22)) 3 #[.int .i64 v]
  rw [hsz2] at this
  refine ⟨rfl, Nat.le_refl _, by decide, (fun e => by cases e), fun _ => ⟨_, 0, rfl, by omega, fun j u hu => ?_⟩⟩
  rw [Nat.zero_add, this.cell j]
  rcases j with _ | j
  ·exact hu
  ·simp [intsV] at hu
 have hsz3 : (((w.alloc (.cells #[.slice An nn cn, .slice Ad nd cd] 30)).alloc (.cells #[.slice Ae ne ce] 22)).alloc (.cells #[.int .i64 v] 3)).heap.size = w.heap.size + 1 + 1 + 1 := by simp
 have HD := Lib.hid hd; have HE := Lib.hid he; have HEN := Lib.hid hends; have HA := Lib.hid ha; have HVR := Lib.hid hv; have HES := Lib.hid hes
 clear hd he hends ha hv hes hsz hsz2
 have hmf : ∀ (fn : Fn) (first cap : Array Value) (w : World), (Instr.makeFunc fn first cap).run Tryz.prog w = .ok (.func fn first cap) w := fun _ _ _ _ => rfl
 go_enter Tryz.func138, Tryz.ntmps138
 go_wp2_with fail
 have HZ3 := Lib.hid hsz3
 clear hsz3
 generalize World.alloc (World.alloc (World.alloc w _) _) _ = W at *
 have hzW := HB.out.size
 refine (flood_any An Ad (some ⟨w.heap.size + 1 + 1, 0, none⟩) nn cn nd cd 1 1 W.heap.size W.heap.size 152 150 #[] #[.pointer (some ⟨w.heap.size + 1, 0, none⟩)] ds [v] (fun _ => true) (fun u => hasB es u) W ((HD.out.below HB.out (Nat.le_refl _)).more hzW) (Nat.le_refl _) (by have := HV.out; rw [HZ3.out]; exact this) (Nat.le_refl _) hnn (by decide) HEN.out (fun u hu => by rw [List.mem_singleton.1 hu]; exact HVR.out) (enters_of Tryz.func152 (by kernel_rfl) rfl) (enters_of Tryz.func150 (by kernel_rfl) rfl) ?_ ?_).mono ?_
 ·intro W' i _ _
  refine (ear2_any i W').mono ?_
  rintro e w' ⟨rfl, rfl⟩
  exact ⟨rfl, Below.refl _ _⟩
 ·intro W' u hb _ _
  refine (ear1_any Ae ne ce w.heap.size (w.heap.size + 1) es u W' ((hb.cell (p := ⟨w.heap.size + 1, 0, none⟩) HE2.out.lt).trans (HE2.out.cell 0)) ((HE.out.below HB.out (Nat.le_refl _)).below hb hzW)).mono ?_
  rintro e w' ⟨rfl, rfl⟩
  exact ⟨rfl, Below.refl _ _⟩
 rintro e w1 ⟨AR, l, rfl, hll, hO, hR, hb1⟩
 have HB1 := Lib.hid (HB.out.trans (hb1.out.mono hzW))
 have HK1 := Lib.hid (HK.out.below hb1.out HK.out.lt)
 have HE1 := Lib.hid (HE2.out.below hb1.out HE2.out.lt)
 have HLL := Lib.hid hll
 have HRE : Hid (∀ u : Nat, u < nn → (l[u]? = some true ↔ Rea ds es v u)) := hR.out
 have HOS := Lib.hid hO.out.sl
 have HGO : Hid (∃ go, AR = some ⟨go, 0, none⟩) := by obtain ⟨g, e, _⟩ := own_some hO.out (by have := HVR.out; omega); exact ⟨g, e⟩
 clear hb1 HB HK HE2 HV HZ3 hzW hll hO hR
 go_upto_region 4 with (fail)
 have HK2 := Lib.hid (HK1.out.alloc (.cells #[.slice AR nn nn] 71))
 have HRB := Lib.hid (Blk.new w1 71 #[.slice AR nn nn])
 have HB2 := Lib.hid (HB1.out.alloc HB1.out.size (.cells #[.slice AR nn nn] 71))
 have HE3 := Lib.hid (HE1.out.alloc (.cells #[.slice AR nn nn] 71))
 have HOS2 : Hid (Sl (w1.alloc (.cells #[.slice AR nn nn] 71)) w1.heap.size 1 AR nn nn (boolsV l)) := HOS.out.alloc (Nat.le_refl _) _
 have hw12 : w1.heap.size ≤ (w1.alloc (.cells #[.slice AR nn nn] 71)).heap.size := by simp
 generalize World.alloc w1 _ = w2 at *
 obtain ⟨rb, hrb⟩ : ∃ x, x = w1.heap.size := ⟨_, rfl⟩
 rw [← hrb] at HRB HOS2 hw12 ⊢
 clear hrb HOS HB1 HK1 HE1
 have hz2 := HB2.out.size
 have k1 : w2.cell? ⟨w.heap.size, 1, none⟩ = some (.slice Ad nd cd) := HK2.out.cell 1
 go_wp2_with fail
 clear k1
 go_loopg [23] nd (EpR w2 ds es v nd)
 case atStart => exact ⟨0, rfl, Nat.zero_le _, rfl, Below.refl _ _, fun j x hj => by omega⟩
 case round =>
  obtain ⟨i, rfl, hi, rfl, hb, hno⟩ := hrel
  by_cases hlt : i < nd; rotate_left
  ·obtain rfl : i = nd := by omega
   have hii : decide (i < i) = false := by simp
   have HPB : Hid (es.any (fun u => l.getD u.toNat false) = protB ds es v) := by
    unfold Hid
    rw [Bool.eq_iff_iff, protB_iff, List.any_eq_true]
    have key : ∀ u ∈ es, (l.getD u.toNat false = true ↔ Rea ds es v u) := fun u hu => by
     obtain ⟨h0, h1⟩ := HES.out u hu
     obtain ⟨k, rfl⟩ := Int.eq_ofNat_of_zero_le h0
     rw [← HRE.out k (by omega), Int.toNat_natCast, List.getD_eq_getElem?_getD]
     rcases l[k]? with _ | x
     ·simp
     ·simp
    constructor
    ·rintro ⟨u, hu, h⟩
     exact ⟨fun j x hx hk hr => hno.out j x (by have := (List.getElem?_eq_some_iff.1 hx).1; rw [HLD.out] at this; exact this) hx hk hr, u, hu, (key u hu).1 h⟩
    ·rintro ⟨_, u, hu, h⟩
     exact ⟨u, hu, (key u hu).2 h⟩
   have e0 : wr.cell? ⟨w.heap.size + 1, 0, none⟩ = some (.slice Ae ne ce) := (HE3.out.below hb.out HE3.out.lt).cell 0
   go_wp2_with fail
   clear e0
   refine (contR_any (fun u => 0 ≤ u ∧ u < nn) 153 #[.pointer (some ⟨rb, 0, none⟩)] (fun u => l.getD u.toNat false) (enters_of Tryz.func153 (by kernel_rfl) rfl) Ae ne ce w.heap.size es wr ((HE.out.below HB2.out (Nat.le_refl _)).below hb.out hz2) HES.out (fun W' x hx hb' => ?_)).mono ?_
   ·have hcl : W'.cell? ⟨rb, 0, none⟩ = some (.slice AR nn nn) := (((HRB.out.below hb.out HRB.out.lt).below hb' (Nat.lt_of_lt_of_le HRB.out.lt hb.out.size))).cell 0
    have hsl := (HOS2.out.below hb.out hw12).below hb' (Nat.le_trans hw12 hb.out.size)
    obtain ⟨go, hgo⟩ := HGO.out
    subst hgo
    exact ear3_gives rb go nn nn rb l x W' hcl hsl hx.1 hx.2
   ·rintro e w5 ⟨rfl, q, rfl⟩
    rw [HPB.out]
    go_wp2_with fail
    go_ret
    exact ⟨rfl, below_drewN (HB2.out.trans (hb.out.mono hz2)) q⟩
  obtain ⟨b0, off, x, rfl, hb0, hx, hc⟩ := ((HD.out.below HB2.out (Nat.le_refl _)).below hb.out hz2).at (k := i) (fun _ => rfl) (by decide) hlt
  have HX := Lib.hid hx
  have har := HA.out x (List.mem_of_getElem? hx)
  obtain ⟨nm, kd, a, b, co⟩ := x
  simp only at har
  obtain ⟨a, rfl⟩ := Int.eq_ofNat_of_zero_le har.1
  have han : a < nn := by omega
  have c0 : wr.cell? ⟨b0, off + i * 5, none⟩ = some (.string nm) := hc 0 _ rfl
  have c1 : wr.cell? ⟨b0, off + i * 5 + 1, none⟩ = some (.int .i64 kd) := hc 1 _ rfl
  have c2 : wr.cell? ⟨b0, off + i * 5 + 2, none⟩ = some (.int .i64 a) := hc 2 _ rfl
  have c3 : wr.cell? ⟨b0, off + i * 5 + 3, none⟩ = some (.int .i64 b) := hc 3 _ rfl
  have c4 : wr.cell? ⟨b0, off + i * 5 + 4, none⟩ = some (.int .i64 co) := hc 4 _ rfl
  clear hc hx hb0 har
  go_upto_region 7 with (fail)
  clear c0 c1 c2 c3 c4
  have HDV := Lib.hid (Blk.new wr 38 #[.string nm, .int .i64 kd, .int .i64 a, .int .i64 b, .int .i64 co])
  have HBN := Lib.hid (hb.out.alloc hb.out.size (.cells #[.string nm, .int .i64 kd, .int .i64 a, .int .i64 b, .int .i64 co] 38))
  generalize World.alloc wr _ = W3 at *
  obtain ⟨vb, hvb⟩ : ∃ x, x = wr.heap.size := ⟨_, rfl⟩
  rw [← hvb] at HDV ⊢
  clear hvb
  have d1 : W3.cell? ⟨vb, 1, none⟩ = some (.int .i64 kd) := HDV.out.cell 1
  have d2 : W3.cell? ⟨vb, 2, none⟩ = some (.int .i64 a) := HDV.out.cell 2
  have r0 : W3.cell? ⟨rb, 0, none⟩ = some (.slice AR nn nn) := (HRB.out.below HBN.out HRB.out.lt).cell 0
  have hsl := HOS2.out.below HBN.out hw12
  obtain ⟨br, ofr, hAR, hbr, hat⟩ := hsl.2.2.2.2 (by omega)
  obtain ⟨rx, hrx⟩ : ∃ rx, l[a]? = some rx := ⟨_, List.getElem?_eq_getElem (by rw [HLL.out]; exact han)⟩
  have ra : W3.cell? ⟨br, ofr + a, none⟩ = some (.bool rx) := hat a (.bool rx) (by rw [boolsV_map, List.getElem?_map, hrx]; rfl)
  have HRX := Lib.hid hrx
  have HARS := Lib.hid hAR
  subst hAR
  clear hat hsl hbr hrx hb
  rcases hk5 : (kd == 5) with _ | _
  ·rcases hk6 : (kd == 6) with _ | _
   ·have HNX : Hid (∀ (j : Nat) (x : Dv), j < i + 1 → ds[j]? = some x → srcB x.kind = true → Rea ds es v x.a → hasB es x.a = true) := fun j x hj hx hs hr => by
     rcases Nat.lt_succ_iff_lt_or_eq.1 hj with h | rfl
     ·exact hno.out j x h hx hs hr
     ·rw [HX.out] at hx; injection hx with hx; subst hx
      unfold srcB at hs; simp only at hs; rw [hk5, hk6] at hs; cases hs
    go_wp2_with fail
    go_roundg (nd - (i + 1))
    case rel => exact ⟨i + 1, by go_num, by omega, rfl, HBN, HNX⟩
    case measure => omega
   ·rcases rx with _ | _
    ·have HNX : Hid (∀ (j : Nat) (x : Dv), j < i + 1 → ds[j]? = some x → srcB x.kind = true → Rea ds es v x.a → hasB es x.a = true) := fun j x hj hx hs hr => by
      rcases Nat.lt_succ_iff_lt_or_eq.1 hj with h | rfl
      ·exact hno.out j x h hx hs hr
      ·rw [HX.out] at hx; injection hx with hx; subst hx
       have := (HRE.out a han).2 hr; rw [HRX.out] at this; cases this
     go_wp2_with fail
     go_roundg (nd - (i + 1))
     case rel => exact ⟨i + 1, by go_num, by omega, rfl, HBN, HNX⟩
     case measure => omega
    have HEA := Lib.hid (ear1_any Ae ne ce w.heap.size (w.heap.size + 1) es a W3 ((HE3.out.below HBN.out HE3.out.lt).cell 0) ((HE.out.below HB2.out (Nat.le_refl _)).below HBN.out hz2))
    rcases he : hasB es a with _ | _
    ·have HF : Hid (protB ds es v = false) := protB_no fun h => by
      have := h.1 i _ HX.out (by unfold srcB; simp only; rw [hk5, hk6]; rfl) ((HRE.out a han).1 HRX.out)
      simp only at this
      rw [he] at this; cases this
     rw [he] at HEA
     clear he
     go_wp2_with fail
     refine HEA.out.mono ?_
     rintro e w5 ⟨rfl, rfl⟩
     go_wp2_with fail
     go_ret
     exact ⟨ret_bool HF.out.symm, HB2.out.trans (HBN.out.mono hz2)⟩
    ·have HNX : Hid (∀ (j : Nat) (x : Dv), j < i + 1 → ds[j]? = some x → srcB x.kind = true → Rea ds es v x.a → hasB es x.a = true) := fun j x hj hx hs hr => by
      rcases Nat.lt_succ_iff_lt_or_eq.1 hj with h | rfl
      ·exact hno.out j x h hx hs hr
      ·rw [HX.out] at hx; injection hx with hx; subst hx
       exact he
     rw [he] at HEA
     clear he
     go_wp2_with fail
     refine HEA.out.mono ?_
     rintro e w5 ⟨rfl, rfl⟩
     go_wp2_with fail
     go_roundg (nd - (i + 1))
     case rel => exact ⟨i + 1, by go_num, by omega, rfl, HBN, HNX⟩
     case measure => omega
  ·rcases rx with _ | _
   ·have HNX : Hid (∀ (j : Nat) (x : Dv), j < i + 1 → ds[j]? = some x → srcB x.kind = true → Rea ds es v x.a → hasB es x.a = true) := fun j x hj hx hs hr => by
     rcases Nat.lt_succ_iff_lt_or_eq.1 hj with h | rfl
     ·exact hno.out j x h hx hs hr
     ·rw [HX.out] at hx; injection hx with hx; subst hx
      have := (HRE.out a han).2 hr; rw [HRX.out] at this; cases this
    go_wp2_with fail
    go_roundg (nd - (i + 1))
    case rel => exact ⟨i + 1, by go_num, by omega, rfl, HBN, HNX⟩
    case measure => omega
   have HEA := Lib.hid (ear1_any Ae ne ce w.heap.size (w.heap.size + 1) es a W3 ((HE3.out.below HBN.out HE3.out.lt).cell 0) ((HE.out.below HB2.out (Nat.le_refl _)).below HBN.out hz2))
   rcases he : hasB es a with _ | _
   ·have HF : Hid (protB ds es v = false) := protB_no fun h => by
     have := h.1 i _ HX.out (by unfold srcB; simp only; rw [hk5]; rfl) ((HRE.out a han).1 HRX.out)
     simp only at this
     rw [he] at this; cases this
    rw [he] at HEA
    clear he
    go_wp2_with fail
    refine HEA.out.mono ?_
    rintro e w5 ⟨rfl, rfl⟩
    go_wp2_with fail
    go_ret
    exact ⟨ret_bool HF.out.symm, HB2.out.trans (HBN.out.mono hz2)⟩
   ·have HNX : Hid (∀ (j : Nat) (x : Dv), j < i + 1 → ds[j]? = some x → srcB x.kind = true → Rea ds es v x.a → hasB es x.a = true) := fun j x hj hx hs hr => by
     rcases Nat.lt_succ_iff_lt_or_eq.1 hj with h | rfl
     ·exact hno.out j x h hx hs hr
     ·rw [HX.out] at hx; injection hx with hx; subst hx
      exact he
    rw [he] at HEA
    clear he
    go_wp2_with fail
    refine HEA.out.mono ?_
    rintro e w5 ⟨rfl, rfl⟩
    go_wp2_with fail
    go_roundg (nd - (i + 1))
    case rel => exact ⟨i + 1, by go_num, by omega, rfl, HBN, HNX⟩
    case measure => omega
end Go.Proofs.YtepicjpdhpojnaaGreatDoor
namespace Go.Proofs.YtepicjpdhpojnaaGreatDoor
open Go.RowKit
noncomputable def missL (ds : List Dv) (es z : List Int) : List Int := z.filter fun v => !protB ds es v
theorem missL_snoc (ds : List Dv) (es : List Int) {z : List Int} {i : Nat} {v : Int} (h : z[i]? = some v) : missL ds es (z.take (i + 1)) = missL ds es (z.take i) ++ if protB ds es v = true then [] else [v] := by
 unfold missL
 rw [take_snoc h, List.filter_append]
 congr 1
 rcases hp : protB ds es v with _ | _ <;> simp [hp]
theorem IntsO.base1 {w : World} {b n c : Nat} {A : Option Addr} {l : List Int} (h : IntsO w (b + 1) A n c l) : IntsO w b A n c l := ⟨h.1, h.2.imp id fun ⟨g, cap, cur, hv, hb, r⟩ => ⟨g, cap, cur, hv, by omega, r⟩⟩
theorem scope_jumps2 {P : Program} {Q : Exit → Act → World → Prop} {a : Act} {w : World} {c X : Code} (l : Nat) (J : Act → World → Prop) (μ : Act → World → Nat) (hf : findLabel c l = some (Code.skip.seq X))
 (first : (∀ a w, J a w → X.wp P (Exit.jump l J Q) a w) → c.wp P (Exit.jump l J Q) a w)
 (pass : ∀ a w, J a w → X.wp P (Exit.jump l (fun a' w' => J a' w' ∧ μ a' w' < μ a w) Q) a w) : (Code.scope c).wp P Q a w :=
 wp_scope_jumps l J μ hf (first fun a w h => Code.wp_mono (fun e _ _ hq => by
  cases e with
  | goto l' => exact ⟨hq.1, hq.2.1⟩
  | _ => exact hq) (pass a w h)) fun a w h => wp_seq (wp_skip (pass a w h))
def intAt : Value → Int | .int _ q => q | _ => 0
def EmJ (w : World) (An Ad Az Ae : Option Addr) (nn cn nd cd n c ne ce : Nat) (ds : List Dv) (es z : List Int) (a : Act) (wr : World) : Prop :=
 ∃ (i m co : Nat) (Ao : Option Addr) (u9 u10 u11 u12 u13 u14 u15 u16 u17 u18 u19 u20 u21 u22 u23 u24 u25 u26 u27 u28 u29 u30 : Value), a = ⟨#[.agg #[.slice An nn cn, .slice Ad nd cd], .slice Az n c, .slice Ae ne ce, .pointer (some ⟨w.heap.size, 0, none⟩), undef, undef, .slice none 0 0, .slice Ao m co, .int .i64 i, u9, u10, u11, u12, u13, u14, u15, u16, u17, u18, u19, u20, u21, u22, u23, u24, u25, u26, u27, u28, u29, u30], []⟩ ∧ i ≤ n ∧ m ≤ i ∧ Hid (Blk wr w.heap.size 30 #[.slice An nn cn, .slice Ad nd cd]) ∧ Hid (Below w.heap.size w wr) ∧ Hid (IntsO wr (w.heap.size + 1) Ao m co (missL ds es (z.take i)))
theorem miss_any (An Ad Az Ae : Option Addr) (nn cn nd cd n c ne ce : Nat) (ds : List Dv) (es z : List Int) (w : World) (hd : Sl w w.heap.size 5 Ad nd cd (ds.flatMap Dv.cells)) (hz : Sl w w.heap.size 1 Az n c (intsV z)) (he : Sl w w.heap.size 1 Ae ne ce (intsV es))
 (hnn : nn ≤ 10000) (hends : EndsOk nn ds) (ha : AOk nn ds) (hzv : ∀ v ∈ z, 0 ≤ v ∧ v < nn) (hes : ∀ u ∈ es, 0 ≤ u ∧ u < nn) (hn : n ≤ 10000) :
 Calls Tryz.prog 118 #[.agg #[.slice An nn cn, .slice Ad nd cd], .slice Az n c, .slice Ae ne ce] w (IntsPost w (missL ds es z)) := by
 have HLZ := Lib.hid (hz.len (fun _ => rfl) (by decide))
 have hzl := hz.le
 have HB0 : Hid (Below w.heap.size w (w.alloc (.cells #[.slice An nn cn, .slice Ad nd cd] 30))) := (Below.refl _ _).alloc (Nat.le_refl _) _
 have HK0 := Lib.hid (Blk.new w 30 #[.slice An nn cn, .slice Ad nd cd])
 have HD := Lib.hid hd; have HZ := Lib.hid hz; have HE := Lib.hid he; have HEN := Lib.hid hends; have HA := Lib.hid ha; have HZV := Lib.hid hzv; have HES := Lib.hid hes
 have HPR := Lib.hid (fun (W : World) (hb : Below w.heap.size w W) (v : Int) (hv : v ∈ z) => prot_any An Ad Ae nn cn nd cd ne ce ds es v W ((hd.below hb (Nat.le_refl _)).more hb.size) ((he.below hb (Nat.le_refl _)).more hb.size) hnn hends ha (hzv v hv) hes)
 clear hd hz he hends ha hzv hes
 go_enter Tryz.func118, Tryz.ntmps118
 go_wp2_with fail
 refine scope_jumps2 0 (EmJ w An Ad Az Ae nn cn nd cd n c ne ce ds es z) (fun a' _ => n - (intAt (a'.tmps.getD 8 undef)).toNat) rfl ?_ ?_
 ·intro H
  go_wp2_with fail
  go_step3
  rename_i K hK
  refine hK _ _ (H _ _ ⟨0, 0, 0, none, _, _, _, _, _, _, _, _, _, _, _, _, _, _, _, _, _, _, _, _, _, _, rfl, Nat.zero_le _, Nat.le_refl _, HK0, HB0, World.ownsRow_nil _ _ _ _⟩)
 ·rintro a' wr ⟨i, m, co, Ao, u9, u10, u11, u12, u13, u14, u15, u16, u17, u18, u19, u20, u21, u22, u23, u24, u25, u26, u27, u28, u29, u30, rfl, hi, hmi, HK, HB, HI⟩
  by_cases hlt : i < n; rotate_left
  ·obtain rfl : i = n := by omega
   have hii : ((i : Int) == (i : Int)) = true := by simp
   have hii2 : (i == i) = true := by simp
   go_wp2_with fail
   simp only [Exit.jump]
   go_ret
   have := HI.out.base1
   rw [List.take_of_length_le (by rw [HLZ.out]; exact Nat.le_refl _)] at this
   exact intsPost_is this.len this HB.out
  have q0 : ((i : Int) == (n : Int)) = false := by simp; omega
  have q1 : (i == n) = false := by simp; omega
  obtain ⟨bz, oz, v, rfl, hbz, hx, hc⟩ := (HZ.out.below HB.out (Nat.le_refl _)).at1 hlt
  have HX := Lib.hid hx
  have HVM := Lib.hid (List.mem_of_getElem? hx)
  have HC := Lib.hid hc
  clear hx hc
  go_upto_region 5 with (fail)
  clear q0 q1
  refine wp_region_ord (S := fun W' => W'.cell? ⟨w.heap.size, 0, none⟩ = some (.slice An nn cn) ∧ W'.cell? ⟨w.heap.size, 1, none⟩ = some (.slice Ad nd cd) ∧ W'.cell? ⟨bz, oz + i, none⟩ = some (.int .i64 v)) (J := []) (n := _) ((1, true) :: (2, true) :: (5, true) :: (0, true) :: (3, true) :: (4, true) :: (6, false) :: (7, true) :: []) (by as_aux_lemma => kernel_rfl) (by rfl) (base_cons (k := 1) (by go_simp; rfl) (base_cons (k := 8) (by go_simp; rfl) (base_cons (k := 2) (by go_simp; rfl) (base_cons (k := 3) (by go_simp; rfl) base_nil)))) ?_ (fun _ _ _ _ _ h => h) (fun Q2 A hsz hbase hn2 hHeld => ?_)
  ·exact ⟨HK.out.cell 0, HK.out.cell 1, HC.out⟩
  try dsimp only at hHeld
  obtain ⟨b1, b8, b2, b3, -⟩ := hbase
  refine ord_move (i := 1) (d := 15) (v := ?_) rfl rfl rfl (wanted_none rfl) hHeld (fun ρ hρ => ?_) ?_
  rotate_left
  ·(have e1 := Eq.trans (hρ.tmp hsz 1 rfl) (lkp_base b1); exact e1)
  show wpOrd _ _ _ _ _ _ _ _
  refine ord_move (i := 2) (d := 16) (v := ?_) rfl rfl rfl (wanted_none rfl) hHeld (fun ρ hρ => ?_) ?_
  rotate_left
  ·(have e8 := Eq.trans (hρ.tmp hsz 8 rfl) (miss1 rfl (lkp_base b8)); exact e8)
  show wpOrd _ _ _ _ _ _ _ _
  refine ord_move (i := 5) (d := 19) (v := ?_) rfl rfl rfl (wanted_none rfl) hHeld (fun ρ hρ => ?_) ?_
  rotate_left
  ·(have e2 := Eq.trans (hρ.tmp hsz 2 rfl) (miss1 rfl (miss1 rfl (lkp_base b2))); exact e2)
  show wpOrd _ _ _ _ _ _ _ _
  refine ord_take (i := 0) (d := 14) (v := ?_) rfl rfl (wanted_none rfl) hHeld (fun ρ hρ w hSw => ?_) ?_
  rotate_left
  ·(have e3 := Eq.trans (hρ.tmp hsz 3 rfl) (miss1 rfl (miss1 rfl (miss1 rfl (lkp_base b3)))); clear hρ; (try dsimp only at hSw); have k0 := hSw.1; have k1 := hSw.2.1; clear hSw; go_simp; try with_reducible rfl)
  show wpOrd _ _ _ _ _ _ _ _
  refine ord_take (i := 3) (d := 17) (v := ?_) rfl rfl (wanted_none rfl) hHeld (fun ρ hρ w hSw => ?_) ?_
  rotate_left
  ·(have e15 := Eq.trans (hρ.tmp hsz 15 rfl) (miss1 rfl (miss1 rfl (miss1 rfl lkp_hit))); have e16 := Eq.trans (hρ.tmp hsz 16 rfl) (miss1 rfl (miss1 rfl lkp_hit)); clear hρ; (try dsimp only at hSw); go_simp; try with_reducible rfl)
  show wpOrd _ _ _ _ _ _ _ _
  refine ord_take (i := 4) (d := 18) (v := ?_) rfl rfl (wanted_none rfl) hHeld (fun ρ hρ w hSw => ?_) ?_
  rotate_left
  ·(have e17 := Eq.trans (hρ.tmp hsz 17 rfl) lkp_hit; clear hρ; (try dsimp only at hSw); have hc := hSw.2.2; clear hSw; go_simp; try with_reducible rfl)
  show wpOrd _ _ _ _ _ _ _ _
  refine ord_call (i := 6) (d := 20) (vs := ?_) rfl rfl rfl (wanted_none rfl) (fun ρ hρ => ?_) ?_ ?_
  rotate_left
  ·(have e14 := Eq.trans (hρ.tmp hsz 14 rfl) (miss1 rfl (miss1 rfl lkp_hit)); have e18 := Eq.trans (hρ.tmp hsz 18 rfl) lkp_hit; have e19 := Eq.trans (hρ.tmp hsz 19 rfl) (miss1 rfl (miss1 rfl (miss1 rfl lkp_hit))); simp only [List.map_toArray, List.map_cons, List.map_nil, e14, e18, e19]; try with_reducible rfl)
  ·(intro w; go_simp)
  refine (HPR.out wr.drew HB.out.drew v HVM.out).mono ?_
  rintro e w3 ⟨rfl, hb3⟩
  have HB3 := Lib.hid (HB.out.drew.trans (hb3.mono HB.out.drew.size))
  have HK3 := Lib.hid ((HK.out.below (Below.refl wr.heap.size wr).drew HK.out.lt).below hb3 HK.out.lt)
  have HI3 := Lib.hid ((HI.out.later (Below.refl _ _).drew).later hb3)
  have HC3 : Hid (w3.cell? ⟨bz, oz + i, none⟩ = some (.int .i64 v)) := (hb3.cell (p := ⟨bz, oz + i, none⟩) (by have := HB.out.size; exact Nat.lt_of_lt_of_le hbz this)).trans HC.out
  clear hb3 HB HK HI HC
  refine ⟨_, rfl, fun _ => ?_, fun hHeld' => ?_⟩
  ·exact ⟨HK3.out.cell 0, HK3.out.cell 1, HC3.out⟩
  replace hHeld := hHeld' rfl
  clear hHeld'
  try dsimp only at hHeld
  show wpOrd _ _ _ _ _ _ _ _
  refine ord_take (i := 7) (d := 21) (v := ?_) rfl rfl (wanted_none rfl) hHeld (fun ρ hρ w hSw => ?_) ?_
  rotate_left
  ·(have e20 := Eq.trans (hρ.tmp hsz 20 rfl) lkp_hit; clear hρ; (try dsimp only at hSw); go_simp; try with_reducible rfl)
  show wpOrd _ _ _ _ _ _ _ _
  refine ord_done hn2 ?_
  clear hHeld hn2 b1 b8 b2 b3 hsz A Q2
  simp only [puts_nil, puts_cons, put_lit, set_1, set_0]
  rcases hp : protB ds es v with _ | _
  ·have HT : Hid (missL ds es (z.take (i + 1)) = missL ds es (z.take i) ++ [v]) := by have := missL_snoc ds es HX.out; rw [hp] at this; unfold Hid; simpa using this
   have hc3 := HC3.out
   have hzs := HB3.out.size
   go_wp2_with (at_builtin; go_must (refine wpList_app rfl (.tmp 22) (.tmp 27) rfl el_int (by rfl) (HI3.out.alloc _) (by rfl) (Sl.newest (n := 1) (by simp) (by rfl) (by decide)) (by simp [Value.oneCell']) (by omega) (by omega) (by simp; omega) ?_; intro A2 co2 w5 hown5 hgr5 hat5; have HO5 := Lib.hid hown5; have HG5 := Lib.hid hgr5; clear hown5 hgr5 hat5))
   have HB5 : Hid (Below w.heap.size w w5) := (HB3.out.alloc hzs _).trans ⟨HG5.out.os, HG5.out.tape, HG5.out.output, HG5.out.size, fun t ht => HG5.out.block t (by simp; omega) (fun e => by have := (HI3.out.lt t e.symm).1; omega)⟩
   have HK5 : Hid (Blk w5 w.heap.size 30 #[.slice An nn cn, .slice Ad nd cd]) := (HK3.out.alloc _).keep (HG5.out.block _ (by simp; have := HK3.out.lt; omega) (fun e => by have := (HI3.out.lt _ e.symm).1; omega))
   have HO6 : Hid (IntsO w5 (w.heap.size + 1) A2 (m + 1) co2 (missL ds es (z.take (i + 1)))) := by
    unfold Hid
    rw [HT.out]
    unfold IntsO
    rw [intsV_append]
    exact HO5.out
   go_step3
   refine ⟨rfl, ⟨i + 1, m + 1, co2, A2, _, _, _, _, _, _, _, _, _, _, _, _, _, _, _, _, _, _, _, _, _, _, by go_num, by omega, by omega, HK5, HB5, HO6⟩, ?_⟩
   simp only [Array.getD_eq_getD_getElem?, intAt]
   simp
   omega
  ·have HT : Hid (missL ds es (z.take (i + 1)) = missL ds es (z.take i)) := by have := missL_snoc ds es HX.out; rw [hp] at this; unfold Hid; simpa using this
   have HO6 : Hid (IntsO w3 (w.heap.size + 1) Ao m co (missL ds es (z.take (i + 1)))) := by rw [HT.out]; exact HI3
   go_wp2_with fail
   go_step3
   refine ⟨rfl, ⟨i + 1, m, co, Ao, _, _, _, _, _, _, _, _, _, _, _, _, _, _, _, _, _, _, _, _, _, _, by go_num, by omega, by omega, HK3, HB3, HO6⟩, ?_⟩
   simp only [Array.getD_eq_getD_getElem?, intAt]
   simp
   omega
end Go.Proofs.YtepicjpdhpojnaaGreatDoor
