import Derived.Test.YtkkobemhbicjgaaGreatDoorB16
import Derived.Test.YtkkobemhbicjgaaGreatDoorB26
import Derived.Test.YtkkobemhbicjgaaGreatDoorB20
import Derived.Test.YtkkobemhbicjgaaGreatDoorLkSort
set_option maxRecDepth 100000
set_option maxHeartbeats 8000000
namespace Go.Proofs.YtkkobemhbicjgaaGreatDoor
open Go.RowKit Tryz
variable {w : World} {B base c g i k n nd size : Nat} {A : Option Addr} {m s : List Int} {vs xs : List Value} {co d p q : Int} {e : TypeId} {ns : List Nd} {ds : List Dv} {ls : List Lk}
theorem im (p : Int) (w : World) (hl : Laid w) : Calls prog 106 #[.int .i64 p] w fun e w' => e = .returned (.bool (zl p)) ∧ w = w' := by
 have c1 := hl.2 0 _ rfl;have c3 := hl.2 2 _ rfl;have c5 := hl.2 4 _ rfl;have c7 := hl.2 6 _ rfl;clear hl;by_cases h0 : 0 ≤ p; rotate_left
 ·have h0' : decide (0 ≤ p) = false := by simpa using h0
  have HP : Hid (zl p = false) := by unfold Hid; simp [zl]; omega
  go_enter func106, ntmps106
  go_wp2_with fail
  go_ret;exact ⟨zF (by rw [HP.out]), rfl⟩
 by_cases h4 : p < 4; rotate_left
 ·have h4' : decide (p < 4) = false := by simpa using h4
  have HP : Hid (zl p = false) := by unfold Hid; simp [zl]; omega
  go_enter func106, ntmps106
  go_wp2_with fail
  go_ret;exact ⟨zF (by rw [HP.out]), rfl⟩
 rcases (show p = 0 ∨ p = 1 ∨ p = 2 ∨ p = 3 by omega) with rfl | rfl | rfl | rfl
 all_goals
  go_enter func106, ntmps106
  go_wp2_with fail
  go_ret;exact ⟨zF (by decide), rfl⟩
theorem mx (w : World) (hl : Laid w) : Go.Proofs.PredAt prog 230 #[] (Value.int .i64) (fun x => !zl x) w := by
 intro W x hb;unfold FnGives; dsimp only;have HI := iD (im x W (hl.below hb lR));clear hl hb;generalize zl x = r at *
 go_enter func230, ntmps230
 go_wp2_with fail
 refine HI.mono ?_;rintro e w1 ⟨rfl, rfl⟩
 go_wp2_with fail
 go_ret;exact ⟨rfl, 0, rfl⟩
theorem Sl.getB {l : List Int} (h : Sl w B 1 A n c (zE l)) (hn : 0 < n) : ∃ b off, A = some ⟨b, off, none⟩ ∧ b < B ∧ l.length = n ∧ ∀ j, j < l.length → w.cell? ⟨b, off + j, none⟩ = some (.int .i64 (l.getD j 0)) := by
 obtain ⟨b, off, e, hb, hc⟩ := h.2.2.2.2 hn;refine ⟨b, off, e, hb, h.len (fun _ => rfl) (by decide), fun j hj => hc j _ ?_⟩;have := uT (f := fun z => [Value.int .i64 z]) (size := 1) (fun _ => rfl) l j 0 _ (List.getElem?_eq_getElem hj) (by decide);rw [Nat.mul_one] at this;rw [List.getD_eq_getElem?_getD, List.getElem?_eq_getElem hj];exact this
theorem mz (A : Option Addr) (n c B : Nat) (m : List Int) (w : World) (hl : Laid w) (hs : Sl w B 1 A n c (zE m)) : Calls prog 223 #[.slice A n c] w fun e w' => e = .returned (.bool (m.all zl)) ∧ bW w w' := by
 have Kv : Hid (m.all zl = !(m.any fun x => !zl x)) := by unfold Hid; rw [List.all_eq_not_any_not]
 have hlen : m.length = n := hs.len (fun _ => rfl) (by decide);have hle := hs.le
 have HC : Hid (Calls prog 229 #[.slice A n c, .func (.func 230) #[] #[]] w fun e w' => e = .returned (.bool (m.any fun x => !zl x)) ∧ Below w.heap.size w w') := by
  rcases Nat.eq_zero_or_pos n with rfl | h0
  ·have : m = [] := List.eq_nil_of_length_eq_zero hlen;subst this;exact (slices_ContainsFunc_empty (α := Int) A c _ w).mono (by rintro e w1 ⟨rfl, rfl⟩; exact ⟨rfl, Below.refl _ _⟩)
  ·obtain ⟨b, off, rfl, hb, _, hc⟩ := hs.getB h0;refine (slices_ContainsFunc (Value.int .i64) (fun x => !zl x) 230 #[] (enters_of func230 (by kernel_rfl) rfl) b off n c m w (mx w hl) (by omega) (by omega) (fun j hj => by rw [hc j hj, List.getD_eq_getElem?_getD, List.getElem!_eq_getElem?_getD]; rfl)).mono ?_;rintro e w1 ⟨rfl, q, rfl⟩;rw [List.take_of_length_le (by omega)];exact ⟨rfl, sj bR q⟩
 clear hl hs hlen hle;rw [Kv.out];clear Kv;generalize (m.any fun x => !zl x) = r at *
 go_enter func223, ntmps223
 go_wp2_with fail
 refine HC.mono ?_;rintro e w1 ⟨rfl, hb⟩
 go_wp2_with fail
 go_ret;exact ⟨rfl, hb⟩
def zU (ns : List Nd) (ds : List Dv) (s : List Int) : Int := if zR ns ds ≠ 0 then zR ns ds else if s.length ≠ ds.length then 9 else if ∀ p ∈ s, zl p = true then 0 else 10
theorem jJ (An Ad As : Option Addr) (nn cn nd cd n c Bn Bd Bs : Nat) (ns : List Nd) (ds : List Dv) (s : List Int) (w : World) (hl : Laid w) (hn : Sl w Bn 3 An nn cn (ns.flatMap Nd.cells)) (hd : Sl w Bd 5 Ad nd cd (ds.flatMap Dv.cells)) (hs : Sl w Bs 1 As n c (zE s)) (CS : Bn ≤ w.heap.size) (BP : Bd ≤ w.heap.size) (CJ : Bs ≤ w.heap.size)
 (Bg : FP ns) (BU : Fv ds) :
 Calls prog 105 #[.agg #[.slice An nn cn, .slice Ad nd cd], .slice As n c, .func (.func 106) #[] #[]] w fun e w' => e = .returned (.int .i64 (zU ns ds s)) ∧ bW w w' := by
 have FU := iD (hs.len (fun _ => rfl) (by decide)); have FL := iD (hd.len (fun _ => rfl) (by decide));obtain ⟨Ip, LM⟩ := hs.le;obtain ⟨TY, JU⟩ := hd.le;have HE : Hid (zU ns ds s = if zR ns ds ≠ 0 then zR ns ds else if n ≠ nd then 9 else if ∀ p ∈ s, zl p = true then 0 else 10) := by unfold Hid; rw [zU, FU.out, FL.out]
 have HL := iD hl; have HN := iD hn; have HD := iD hd; have HS := iD hs;have Cm := iD (vj An Ad nn cn nd cd Bn Bd ns ds (w.alloc (.cells #[.slice An nn cn, .slice Ad nd cd] 30)) (hl.alloc _) (hn.alloc CS _) (hd.alloc BP _) (by simp; omega) (by simp; omega) Bg BU);clear hl hn hd hs Bg BU;generalize zR ns ds = er at *;have Bj : Hid (Below w.heap.size w (w.alloc (.cells #[.slice An nn cn, .slice Ad nd cd] 30))) := (Below.refl _ _).alloc lR _;by_cases h0 : er = 0; rotate_left
 ·have h0' : (er != 0) = true := by simpa using h0
  have HR : Hid (zU ns ds s = er) := by unfold Hid; rw [HE.out, if_pos h0]
  clear h0
  go_enter func105, ntmps105
  go_wp2_with fail
  refine Cm.mono ?_;rintro e w1 ⟨rfl, AV⟩
  go_wp2_with fail
  go_ret;exact ⟨zC (by rw [HR.out]), Bj.trans (AV.mono (by simp))⟩
 subst h0
 go_enter func105, ntmps105
 go_wp2_with fail
 refine Cm.mono ?_;rintro e w1 ⟨rfl, AV⟩;have De := iD ((AJ.new w 30 #[.slice An nn cn, .slice Ad nd cd]).below AV (by simp));have AQ := iD (Bj.trans (AV.mono (by simp)));have k1 := De.c1;have ER := AQ.size;clear AV Cm;by_cases AB : n = nd; rotate_left
 ·have q : decide (n = nd) = false := by simpa using AB
  have q' : ((n : Int) != (nd : Int)) = true := by simp; omega
  have HR : Hid (zU ns ds s = 9) := by unfold Hid; rw [HE.out, if_neg (by simp), if_pos AB]
  clear AB
  go_wp2_with fail
  go_ret;exact ⟨zC (by rw [HR.out]), AQ⟩
 subst AB;have Hw := iD (HL.below AQ lR);have BO := iD (HS.below AQ CJ)
 go_wp2_with fail
 clear k1
 go_loop [9, 23] (fun _ iv => ∃ i : Nat, iv = .int .i64 i ∧ i ≤ n ∧ Hid (∀ p ∈ s.take i, zl p = true)) (fun _ iv => n - (intOf iv).toNat)
 case atStart => exact ⟨0, rfl, Nat.zero_le _, by simp [Hid]⟩
 case round =>
  obtain ⟨i, rfl, hi, CP⟩ := hrel;by_cases hlt : i < n
  ·obtain ⟨b, off, x, rfl, hb, hx, hc⟩ := BO.at1 hlt;have HX := iD hx; clear hx;have Ig := iD (im x w1 Hw);rcases hp : zl x with _ | _
   ·have HR : Hid (zU ns ds s = 10) := by
     unfold Hid;rw [HE.out, if_neg (by simp), if_neg (by simp), if_neg (fun h => by have := h x (List.mem_of_getElem? HX.out); rw [hp] at this; cases this)]
    rw [hp] at Ig;clear hp
    go_wp2_with fail
    refine Ig.mono ?_;rintro e w2 ⟨rfl, rfl⟩
    go_wp2_with fail
    go_ret;exact ⟨zC (by rw [HR.out]), AQ⟩
   ·rw [hp] at Ig;have HP := iD hp; clear hp
    go_wp2_with fail
    refine Ig.mono ?_;rintro e w2 ⟨rfl, rfl⟩
    go_wp2_with fail
    go_round
    case rel =>
     refine ⟨i + 1, by go_num, by omega, fun p hp => ?_⟩;rw [zP HX.out] at hp;rcases List.mem_append.1 hp with h | h
     ·exact CP p h
     ·rw [List.mem_singleton.1 h]; exact HP.out
    case measure => simp [intOf]; omega
  ·obtain rfl : i = n := by omega
   have IV : decide (i < i) = false := by simp
   have HR : Hid (zU ns ds s = 0) := by
    unfold Hid;have := CP.out;rw [List.take_of_length_le (by rw [FU.out]; exact Nat.le_refl _)] at this;rw [HE.out, if_neg (by simp), if_neg (by simp), if_pos this]
   go_wp2_with fail
   go_ret;exact ⟨zC (by rw [HR.out]), AQ⟩
theorem uC (An Ad As : Option Addr) (nn cn nd cd n c Bn Bd Bs : Nat) (ns : List Nd) (ds : List Dv) (s : List Int) (w : World) (hl : Laid w) (hn : Sl w Bn 3 An nn cn (ns.flatMap Nd.cells)) (hd : Sl w Bd 5 Ad nd cd (ds.flatMap Dv.cells)) (hs : Sl w Bs 1 As n c (zE s)) (CS : Bn ≤ w.heap.size) (BP : Bd ≤ w.heap.size) (CJ : Bs ≤ w.heap.size)
 (Bg : FP ns) (BU : Fv ds) :
 Calls prog 72 #[.agg #[.slice An nn cn, .slice Ad nd cd], .slice As n c] w fun e w' => e = .returned (.int .i64 (zU ns ds s)) ∧ bW w w' := by
 have HC := iD (jJ An Ad As nn cn nd cd n c Bn Bd Bs ns ds s (w.alloc (.cells #[.slice An nn cn, .slice Ad nd cd] 30)) (hl.alloc _) (hn.alloc CS _) (hd.alloc BP _) (hs.alloc CJ _) (by simp; omega) (by simp; omega) (by simp; omega) Bg BU);clear hl hn hd hs Bg BU
 go_enter func72, ntmps72
 go_wp2_with fail
 refine HC.mono ?_;rintro e w1 ⟨rfl, AV⟩
 go_wp2_with fail
 go_ret;exact ⟨rfl, ((Below.refl _ _).alloc lR _).trans (AV.mono (by simp))⟩
def rK (w : World) (m : List Int) (e : Ending) (w' : World) : Prop := ∃ (A : Option Addr) (k c : Nat), e = .returned (.slice A k c) ∧ Hid (k = zm m m.length) ∧ Hid (zL w' w.heap.size A k c ((wA m m.length).map (Nat.cast (R := Int)))) ∧ Hid (bW w w')
def UnR (w : World) (m : List Int) (n gk : Nat) (ov iv : Value) (wr : World) : Prop := ∃ (i k c : Nat) (A : Option Addr), iv = .int .i64 i ∧ ov = .slice A k c ∧ i ≤ n ∧ gk = n - i ∧ k ≤ i ∧ Hid (k = zm m i) ∧ Hid (zL wr w.heap.size A k c ((wA m i).map (Nat.cast (R := Int)))) ∧ Hid (bW w wr)
theorem ll (h : m[i]? = some 3) : (wA m (i + 1)).map (Nat.cast (R := Int)) = (wA m i).map (Nat.cast (R := Int)) ++ [(i : Int)] := by rw [wA, if_pos h]; simp
theorem oY (h : m[i]? ≠ some 3) : wA m (i + 1) = wA m i := by rw [wA, if_neg h]
theorem kI (h : m[i]? = some 3) (hk : k = zm m i) : k + 1 = zm m (i + 1) := by rw [yn, if_pos h, hk]
theorem mD (h : m[i]? ≠ some 3) (hk : k = zm m i) : k = zm m (i + 1) := by rw [yn, if_neg h, hk]; rfl
theorem vz (A : Option Addr) (n c B : Nat) (m : List Int) (w : World) (hs : Sl w B 1 A n c (zE m)) (hB : B ≤ w.heap.size) (hn : n ≤ 1000000) : Calls prog 207 #[.slice A n c] w (rK w m) := by
 have NV := iD (hs.len (fun _ => rfl) (by decide)); have HS := iD hs;clear hs
 go_enter func207, ntmps207
 go_wp2_with fail
 go_loopg [3, 8] n (UnR w m n)
 case atStart => exact ⟨0, 0, 0, none, rfl, rfl, Nat.zero_le _, rfl, Nat.le_refl _, rfl, World.ownsRow_nil _ _ _ _, Below.refl _ _⟩
 case round =>
  obtain ⟨i, k, co, Ao, rfl, rfl, hi, rfl, Ux, hk, hO, AU⟩ := hrel;by_cases hlt : i < n
  ·obtain ⟨b, off, x, rfl, hb, hx, hc⟩ := (HS.below AU hB).at1 hlt;have HX := iD hx;clear hx;by_cases h3 : x = 3
   ·subst h3;have HU := iD (ll HX); have HK := iD (kI HX hk)
    go_wp2_with (at_builtin; go_must (refine zM rfl (.tmp 15) (.tmp 17) rfl yU (by rfl) (hO.alloc _) (by rfl) (Sl.newest (n := 1) (by simp) (by rfl) (by decide)) (by simp [Value.oneCell']) (by omega) (by omega) (by have := AU.size; simp; omega) ?_; intro A' cap' w3 BL CG DU; have Az := iD BL; have CU := iD CG; clear BL CG DU))
    go_roundg (n - (i + 1))
    case rel =>
     refine ⟨i + 1, k + 1, cap', A', by go_num, rfl, by omega, rfl, by omega, HK, ?_, ?_⟩
     ·have h := Az.out;unfold Hid; rw [HU.out]; unfold zL; rw [ze];exact h
     ·have h1 := AU.alloc AU.size (.cells #[.int .i64 (i : Int)] 3);refine h1.trans ⟨CU.os, CU.tape, CU.output, CU.size, fun q hq => CU.block q (by have := h1.size; omega) (fun e => by have := (hO.lt q e.symm).1; omega)⟩
    case measure => omega
   ·have q : (x == 3) = false := by simpa using h3
    have h3' : m[i]? ≠ some 3 := fun h => h3 (by rw [HX.out] at h; injection h)
    have HU := iD (oY h3'); have HK := iD (mD h3' hk);clear h3 h3'
    go_wp2_with fail
    go_roundg (n - (i + 1))
    ·exact ⟨i + 1, k, co, Ao, by go_num, rfl, by omega, rfl, by omega, HK, (by unfold Hid; rw [HU.out]; exact hO), AU⟩
    omega
  ·obtain rfl : i = n := by omega
   have Cw : decide (i < i) = false := by simp
   go_wp2_with fail
   go_ret;refine ⟨Ao, k, co, rfl, ?_, ?_, AU⟩
   ·unfold Hid; rw [NV.out]; exact hk.out
   ·unfold Hid; rw [NV.out]; exact hO.out
def yG (m : List Int) : Int := if m.all zl = true then (if 8 < zm m m.length then 1 else 0) else 10
def uH (m : List Int) : Int := if yG m = 0 then (2 ^ zm m m.length : Nat) else 0
theorem jW (A : Option Addr) (n c B : Nat) (m : List Int) (w : World) (hl : Laid w) (hs : Sl w B 1 A n c (zE m)) (hB : B ≤ w.heap.size) (hn : n ≤ 1000000) : Calls prog 206 #[.slice A n c] w fun e w' => e = .returned (.tuple #[.int .i64 (uH m), .int .i64 (yG m)]) ∧ bW w w' := by
 have HV := iD (mz A n c B m w hl hs);have HU : Hid (∀ w1, Below w.heap.size w w1 → Calls prog 207 #[.slice A n c] w1 (rK w1 m)) := fun w1 hb => vz A n c B m w1 (hs.below hb hB) (Nat.le_trans hB hb.size) hn
 clear hl; clear hs;rcases hv : m.all zl with _ | _
 ·have HE : Hid (yG m = 10) := by unfold Hid yG; rw [hv]; rfl
  have HN : Hid (uH m = 0) := by unfold Hid uH; rw [HE.out]; rfl
  rw [HE.out, HN.out];rw [hv] at HV;clear hv HE HN
  go_enter func206, ntmps206
  go_wp2_with fail
  refine HV.mono ?_;rintro e w1 ⟨rfl, AV⟩
  go_wp2_with fail
  go_ret2;exact ⟨rfl, AV⟩
 rw [hv] at HV;by_cases h8 : 8 < zm m m.length
 ·have HE : Hid (yG m = 1) := by unfold Hid yG; rw [hv, if_pos rfl, if_pos h8]
  have HN : Hid (uH m = 0) := by unfold Hid uH; rw [HE.out]; rfl
  have H8 := iD h8;rw [HE.out, HN.out];clear hv HE HN h8
  go_enter func206, ntmps206
  go_wp2_with fail
  refine HV.mono ?_;rintro e w1 ⟨rfl, AV⟩
  go_wp2_with fail
  refine (HU w1 AV).mono ?_;rintro e w2 ⟨Au, k, cu, rfl, hk, hO, AZ⟩;have BM : decide ((8 : Int) < (k : Int)) = true := by have := hk.out; have := H8.out; simp; omega
  go_wp2_with fail
  go_ret2;exact ⟨rfl, AV.trans (AZ.mono AV.size)⟩
 ·have HE : Hid (yG m = 0) := by unfold Hid yG; rw [hv, if_pos rfl, if_neg h8]
  have HN : Hid (uH m = (2 ^ zm m m.length : Nat)) := by unfold Hid uH; rw [HE.out]; rfl
  have H8 := iD h8;rw [HE.out];clear hv HE h8
  go_enter func206, ntmps206
  go_wp2_with fail
  refine HV.mono ?_;rintro e w1 ⟨rfl, AV⟩
  go_wp2_with fail
  refine (HU w1 AV).mono ?_;rintro e w2 ⟨Au, k, cu, rfl, hk, hO, AZ⟩;have AG : k = 0 ∨ k = 1 ∨ k = 2 ∨ k = 3 ∨ k = 4 ∨ k = 5 ∨ k = 6 ∨ k = 7 ∨ k = 8 := by have := hk.out; have := H8.out; omega
  clear H8 hO;rcases AG with rfl | rfl | rfl | rfl | rfl | rfl | rfl | rfl | rfl
  all_goals
   go_wp2_with fail
   go_ret2;exact ⟨by rw [HN.out, ← hk.out]; rfl, AV.trans (AZ.mono AV.size)⟩
theorem pn (A : Option Addr) (n c B : Nat) (m : List Int) (w : World) (hs : Sl w B 1 A n c (zE m)) (hB : B ≤ w.heap.size) (hn : n ≤ 1000000) : Calls prog 97 #[.slice A n c] w (rK w m) := by
 have NV := iD (hs.len (fun _ => rfl) (by decide)); have HS := iD hs;clear hs
 go_enter func97, ntmps97
 go_wp2_with fail
 go_loopg [3, 4] n (UnR w m n)
 case atStart => exact ⟨0, 0, 0, none, rfl, rfl, Nat.zero_le _, rfl, Nat.le_refl _, rfl, World.ownsRow_nil _ _ _ _, Below.refl _ _⟩
 case round =>
  obtain ⟨i, k, co, Ao, rfl, rfl, hi, rfl, Ux, hk, hO, AU⟩ := hrel;by_cases hlt : i < n
  ·obtain ⟨b, off, x, rfl, hb, hx, hc⟩ := (HS.below AU hB).at1 hlt;have HX := iD hx;clear hx;by_cases h3 : x = 3
   ·subst h3;have HU := iD (ll HX); have HK := iD (kI HX hk)
    go_wp2_with (at_builtin; go_must (refine zM rfl (.tmp 16) (.tmp 18) rfl yU (by rfl) (hO.alloc _) (by rfl) (Sl.newest (n := 1) (by simp) (by rfl) (by decide)) (by simp [Value.oneCell']) (by omega) (by omega) (by have := AU.size; simp; omega) ?_; intro A' cap' w3 BL CG DU; have Az := iD BL; have CU := iD CG; clear BL CG DU))
    go_roundg (n - (i + 1))
    case rel =>
     refine ⟨i + 1, k + 1, cap', A', by go_num, rfl, by omega, rfl, by omega, HK, ?_, ?_⟩
     ·have h := Az.out;unfold Hid; rw [HU.out]; unfold zL; rw [ze];exact h
     ·have h1 := AU.alloc AU.size (.cells #[.int .i64 (i : Int)] 3);refine h1.trans ⟨CU.os, CU.tape, CU.output, CU.size, fun q hq => CU.block q (by have := h1.size; omega) (fun e => by have := (hO.lt q e.symm).1; omega)⟩
    case measure => omega
   ·have q : (x == 3) = false := by simpa using h3
    have h3' : m[i]? ≠ some 3 := fun h => h3 (by rw [HX.out] at h; injection h)
    have HU := iD (oY h3'); have HK := iD (mD h3' hk);clear h3 h3'
    go_wp2_with fail
    go_roundg (n - (i + 1))
    ·exact ⟨i + 1, k, co, Ao, by go_num, rfl, by omega, rfl, by omega, HK, (by unfold Hid; rw [HU.out]; exact hO), AU⟩
    omega
  ·obtain rfl : i = n := by omega
   have Cw : decide (i < i) = false := by simp
   go_wp2_with fail
   go_ret;refine ⟨Ao, k, co, rfl, ?_, ?_, AU⟩
   ·unfold Hid; rw [NV.out]; exact hk.out
   ·unfold Hid; rw [NV.out]; exact hO.out
theorem mr (A : Option Addr) (n c B : Nat) (m : List Int) (w : World) (hs : Sl w B 1 A n c (zE m)) (hB : B ≤ w.heap.size) (hn : n ≤ 1000000) : Calls prog 68 #[.slice A n c] w fun e w' => e = .returned (.tuple #[.int .i64 (uH m), .int .i64 (yG m)]) ∧ bW w w' := by
 have HV := iD (lE A n c B m w hs hB);have HU : Hid (∀ w1, Below w.heap.size w w1 → Calls prog 97 #[.slice A n c] w1 (rK w1 m)) := fun w1 hb => pn A n c B m w1 (hs.below hb hB) (Nat.le_trans hB hb.size) hn
 clear hs;rcases hv : m.all zl with _ | _
 ·have HE : Hid (yG m = 10) := by unfold Hid yG; rw [hv]; rfl
  have HN : Hid (uH m = 0) := by unfold Hid uH; rw [HE.out]; rfl
  rw [HE.out, HN.out];rw [hv] at HV;clear hv HE HN
  go_enter func68, ntmps68
  go_wp2_with fail
  refine HV.mono ?_;rintro e w1 ⟨rfl, AV⟩
  go_wp2_with fail
  go_ret2;exact ⟨rfl, AV⟩
 rw [hv] at HV;by_cases h8 : 8 < zm m m.length
 ·have HE : Hid (yG m = 1) := by unfold Hid yG; rw [hv, if_pos rfl, if_pos h8]
  have HN : Hid (uH m = 0) := by unfold Hid uH; rw [HE.out]; rfl
  have H8 := iD h8;rw [HE.out, HN.out];clear hv HE HN h8
  go_enter func68, ntmps68
  go_wp2_with fail
  refine HV.mono ?_;rintro e w1 ⟨rfl, AV⟩
  go_wp2_with fail
  refine (HU w1 AV).mono ?_;rintro e w2 ⟨Au, k, cu, rfl, hk, hO, AZ⟩;have BM : decide ((8 : Int) < (k : Int)) = true := by have := hk.out; have := H8.out; simp; omega
  go_wp2_with fail
  go_ret2;exact ⟨rfl, AV.trans (AZ.mono AV.size)⟩
 ·have HE : Hid (yG m = 0) := by unfold Hid yG; rw [hv, if_pos rfl, if_neg h8]
  have HN : Hid (uH m = (2 ^ zm m m.length : Nat)) := by unfold Hid uH; rw [HE.out]; rfl
  have H8 := iD h8;rw [HE.out];clear hv HE h8
  go_enter func68, ntmps68
  go_wp2_with fail
  refine HV.mono ?_;rintro e w1 ⟨rfl, AV⟩
  go_wp2_with fail
  refine (HU w1 AV).mono ?_;rintro e w2 ⟨Au, k, cu, rfl, hk, hO, AZ⟩;have AG : k = 0 ∨ k = 1 ∨ k = 2 ∨ k = 3 ∨ k = 4 ∨ k = 5 ∨ k = 6 ∨ k = 7 ∨ k = 8 := by have := hk.out; have := H8.out; omega
  clear H8 hO;rcases AG with rfl | rfl | rfl | rfl | rfl | rfl | rfl | rfl | rfl
  all_goals
   go_wp2_with fail
   go_ret2;exact ⟨by rw [HN.out, ← hk.out]; rfl, AV.trans (AZ.mono AV.size)⟩
theorem ot (n : Nat) (hn : n ≤ 1000000) (w : World) : (Instr.makeSlice 65 (.int .i64 (n : Int)) (.int .i64 (n : Int))).run prog w = .ok (.slice (some ⟨w.heap.size, 0, none⟩) n n) (w.alloc (.cells (Array.replicate n (Value.slice none 0 0)) 22)) := by
 rw [run_make_row' 65 22 (.slice none 0 0) 24 underlying65 (by kernel_rfl) rfl .i64 .i64 n (by omega) (by omega) w]
 congr 3
 apply Array.ext'
 rw [toList_madeCells_one]; simp
theorem iA (w : World) (n : Nat) (hn : n ≤ 1000000) : (w.alloc (.cells (Array.replicate n (Value.slice none 0 0)) 22)).ownsRow w.heap.size 22 1 (.slice (some ⟨w.heap.size, 0, none⟩) n n) n (List.replicate n (Value.slice none 0 0)) := by
 have := tV (w := w) (base := w.heap.size) (n := n) (e := 22) (xs := List.replicate n (Value.slice none 0 0)) lR (by omega) (by simp)
 rwa [List.toArray_replicate] at this
theorem iq (n : Int) : bits .and .i64 n 1 = n % 2 := by
 have h1 : (BitVec.ofInt 64 1).toNat = 2 ^ 1 - 1 := by decide
 have key : (BitVec.ofInt 64 n &&& BitVec.ofInt 64 1).toNat = (n % ((2 ^ 64 : Nat) : Int)).toNat % 2 ^ 1 := by
  rw [BitVec.toNat_and, BitVec.toNat_ofInt, h1, Nat.and_two_pow_sub_one_eq_mod]
 show IntKind.i64.wrap ((BitVec.ofInt 64 n &&& BitVec.ofInt 64 1).toNat : Nat) = n % 2
 rw [key, IntKind.wrap_i64];omega
theorem eE (k sh : Nat) : bits .and .i64 ((k : Int) / 2 ^ sh) 1 = ((k >>> sh % 2 : Nat) : Int) := by
 rw [iq, Nat.shiftRight_eq_div_pow];have : ((k : Int) / 2 ^ sh) = ((k / 2 ^ sh : Nat) : Int) := by simp
 rw [this]; omega
def mQ (w : World) (m : List Int) (e : Ending) (w' : World) : Prop :=
 (yG m ≠ 0 ∧ e = .returned (.tuple #[.slice none 0 0, .int .i64 (yG m)]) ∨ yG m = 0 ∧ ∃ (A : Option Addr) (k c : Nat), e = .returned (.tuple #[.slice A k c, .int .i64 0]) ∧ Hid (xG w' w'.heap.size A k c (yp m))) ∧ Hid (Below w.heap.size w w')
def tp (wr : World) (B g : Nat) (m : List Int) (k : Nat) (vs : List Value) : Prop := ∀ j, j < k → ∃ (Aj : Option Addr) (cj : Nat), vs[j]? = some (Value.slice Aj m.length cj) ∧ Sl wr B 1 Aj m.length cj (zE (Jj m m.length j)) ∧ ∀ b off, Aj = some ⟨b, off, none⟩ → g < b
theorem tp.below {w' : World} {B' : Nat} (h : tp w B g m k vs) (hb : Below B' w w') (hB : B ≤ B') : tp w' B g m k vs := fun j hj => by
 obtain ⟨Aj, cj, h1, h2, h3⟩ := h j hj;exact ⟨Aj, cj, h1, h2.below hb hB, h3⟩
theorem tp.far (h : tp w B g m k vs) {p : Addr} (hp : B ≤ p.block) (u : Value) : tp (w.setCell p u) B g m k vs := fun j hj => by
 obtain ⟨Aj, cj, h1, h2, h3⟩ := h j hj;exact ⟨Aj, cj, h1, h2.setCell hp u, h3⟩
theorem tp.row (h : tp w B g m k vs) (hi : k ≤ i) (u : Value) : tp (w.setCell ⟨g, i, none⟩ u) B g m k (vs.set i u) := fun j hj => by
 obtain ⟨Aj, cj, h1, h2, h3⟩ := h j hj;refine ⟨Aj, cj, by rw [List.getElem?_set_ne (by omega)]; exact h1, ?_, h3⟩;obtain ⟨s1, s2, s3, s4, s5⟩ := h2;refine ⟨s1, s2, s3, s4, fun hn => ?_⟩;obtain ⟨b, off, e, hb, hc⟩ := s5 hn;have := h3 b off e;exact ⟨b, off, e, hb, fun t v hv => (World.cell?_setCell_other _ _ _ _ (fun e => by injection e with e1; omega)).trans (hc t v hv)⟩
theorem tp.put {l : List Int} (h : tp w B g m k vs) (hl : l = Jj m m.length k) (hv : vs[k]? = some (Value.slice A m.length c)) (hs : BI w 1 A m.length c (zE l)) (hB : B ≤ w.heap.size) (hA : ∀ b off, A = some ⟨b, off, none⟩ → g < b) : tp w w.heap.size g m (k + 1) vs := fun j hj => by
 rcases Nat.lt_succ_iff_lt_or_eq.1 hj with hj | rfl
 ·obtain ⟨Aj, cj, h1, h2, h3⟩ := h j hj;exact ⟨Aj, cj, h1, h2.more hB, h3⟩
 ·exact ⟨A, c, hv, by rw [← hl]; exact hs, hA⟩
theorem iL (h : w.ownsRow base e 1 (.slice (some ⟨g, 0, none⟩) n c) n xs) (hi : i < n) : ∃ x, xs[i]? = some x ∧ w.cell? ⟨g, i, none⟩ = some x ∧ w.frozen? ⟨g, i, none⟩ = false ∧ ∀ y, (w.setCell ⟨g, i, none⟩ y).ownsRow base e 1 (.slice (some ⟨g, 0, none⟩) n c) n (xs.set i y) := by
 have hl : xs.length = n := by have := h.1; omega
 refine ⟨xs[i]'(by omega), List.getElem?_eq_getElem (by omega), ?_, h.frozenAt i, fun y => (h.stored i y).1⟩;rw [h.cellAt i (by omega)]; exact List.getElem?_eq_getElem (by omega)
def MaR (W : World) (g : Nat) (m : List Int) (P gk : Nat) (iv : Value) (wr : World) : Prop := ∃ (k : Nat) (vs : List Value), iv = .int .i64 k ∧ k ≤ P ∧ gk = P - k ∧ Hid (wr.ownsRow g 22 1 (.slice (some ⟨g, 0, none⟩) P P) P vs) ∧ Hid (tp wr wr.heap.size g m k vs) ∧ Hid (Below g W wr)
def cB (W : World) (g B : Nat) (A : Option Addr) (c : Nat) (m : List Int) (P k u : Nat) (vs : List Value) (gk : Nat) (iv : Value) (wr : World) : Prop := ∃ (j : Nat) (l : List Int), iv = .int .i64 j ∧ j ≤ u ∧ gk = u - j ∧ Hid (wr.ownsRow g 22 1 (.slice (some ⟨g, 0, none⟩) P P) P vs) ∧ Hid (tp wr B g m k vs) ∧ Hid (Below g W wr) ∧ Hid (zL wr B A m.length c l) ∧ Hid (vp m k j l) ∧ Hid (B ≤ wr.heap.size)
theorem fH (A : Option Addr) (c B : Nat) (m : List Int) (w : World) (hl : Laid w) (hs : Sl w B 1 A m.length c (zE m)) (hB : B ≤ w.heap.size) (hn : m.length ≤ 1000) : Calls prog 186 #[.slice A m.length c] w (mQ w m) := by
 have HC := iD (jW A m.length c B m w hl hs hB (by omega));have HS := iD hs;clear hl hs;by_cases he : yG m = 0; rotate_left
 ·have q : (yG m != 0) = true := by simpa using he
  have HE := iD he;clear he
  go_enter func186, ntmps186
  go_wp2_with fail
  refine HC.mono ?_;rintro e w1 ⟨rfl, AV⟩
  go_wp2_with fail
  go_ret2;exact ⟨.inl ⟨HE, rfl⟩, AV⟩
 have FN : Hid (uH m = (2 ^ zm m m.length : Nat)) := by unfold Hid uH; rw [if_pos he]
 have Vl : Hid (zm m m.length ≤ 8) := by
  unfold yG at he;split at he
  ·split at he
   ·omega
   ·unfold Hid; omega
  ·omega
 have HE := iD he;rw [he, FN.out] at HC;obtain ⟨P, hP⟩ := eX (2 ^ zm m m.length);rw [← hP] at HC
 have Bi : P ≤ 256 := by
  have := Nat.pow_le_pow_right (n := 2) (by decide) Vl.out;omega
 have HP := iD hP;clear he FN hP
 go_enter func186, ntmps186
 go_wp2_with fail
 refine HC.mono ?_;rintro e w1 ⟨rfl, AV⟩
 go_wp2_with fail
 refine (vz A m.length c B m w1 (HS.below AV hB) (Nat.le_trans hB AV.size) (by omega)).mono ?_;rintro e W ⟨Au, u, cu, rfl, hu, Nu, AZ⟩;have FX := ot P (by omega) W
 go_wp2_with fail
 clear FX;have AQ := iD (AV.trans (AZ.mono AV.size));have Vn := iD Nu.sl;have DN := iD (HS.below AQ hB);have HOW := iD (iA W P (by omega));have TB : Hid (Below W.heap.size W (W.alloc (.cells (Array.replicate P (Value.slice none 0 0)) 22))) := (Below.refl _ _).alloc lR _;have Af : w.heap.size ≤ W.heap.size := AQ.size;have Bf : u ≤ 8 := by have := hu.out; have := Vl.out; omega
 clear AV AZ HC Nu Vl;obtain ⟨g, hg⟩ := eX W.heap.size;rw [← hg] at HOW TB Vn Af ⊢;clear hg;generalize World.alloc _ _ = W1 at *
 go_loopg [24] P (MaR W g m P)
 case atStart => exact ⟨0, _, rfl, Nat.zero_le _, rfl, HOW, (fun j hj => absurd hj (by omega)), TB⟩
 case round =>
  clear HOW TB;obtain ⟨k, vs, rfl, hk, rfl, how, Ei, AU⟩ := hrel;by_cases hlt : k < P
  ·have HZ := iD (iK how g rfl).2;have Ae : g < wr.heap.size := HZ.out
   go_wp2_with fail
   refine (yo A m.length c B m wr (DN.below AU (by omega)) (by omega) (by omega)).mono ?_;rintro e w3 ⟨Ak, ck, rfl, Ep, BX⟩;obtain ⟨y, _, JV, VA, Md⟩ := iL (zI how BX) hlt;have BG := iD (Md (.slice Ak m.length ck));have Sb := iD (((Ei.below BX lR).row (i := k) lR (.slice Ak m.length ck)))
   have Am : Hid ((vs.set k (.slice Ak m.length ck))[k]? = some (Value.slice Ak m.length ck)) := by
    unfold Hid;have := iK how.out;rw [List.getElem?_set_self (by have := how.1; omega)]
   have BC := iD (Ep.kept (zg w3 ⟨g, k, none⟩ (.slice Ak m.length ck)) (zb fun b e => by have := (Ep.lt b e).1; simp; omega));have DF := iD ((AU.trans (BX.mono (Nat.le_of_lt Ae))).setCell (p := ⟨g, k, none⟩) (by simp) (.slice Ak m.length ck));have Ba : Hid (∀ b off, Ak = some ⟨b, off, none⟩ → g < b) := fun b off e => by have := (Ep.lt b (by rw [e]; rfl)).1; omega
   have AO : Hid (wr.heap.size ≤ (w3.setCell ⟨g, k, none⟩ (.slice Ak m.length ck)).heap.size) := by have := BX.size; unfold Hid; simp [World.setCell]; exact this
   clear Md Ep BX Ei how;have WY := iD (vp.start m k)
   go_wp2_with fail
   clear JV VA;generalize World.setCell _ _ _ = W3 at *;obtain ⟨Bk, Rh⟩ := eX wr.heap.size;rw [← Rh] at Sb BC AO Ae;clear Rh HZ AU
   go_loopg [34] u (cB W g Bk Ak ck m P k u (vs.set k (.slice Ak m.length ck)))
   case atStart => exact ⟨0, m, rfl, Nat.zero_le _, rfl, BG, Sb, DF, BC, WY, AO⟩
   case round =>
    clear BG Sb DF BC WY AO;obtain ⟨j, l, rfl, hj, rfl, how, Ei, AU, hO, VB, hz⟩ := hrel;by_cases QG : j < u
    ·obtain ⟨ub, uo, x, rfl, Bc, hx, DK⟩ := (Vn.below AU lR).at1 QG;rw [List.getElem?_map] at hx
     obtain ⟨d, hd, rfl⟩ : ∃ d, (wA m m.length)[j]? = some d ∧ (d : Int) = x := by
      rcases hq : (wA m m.length)[j]? with _ | d
      ·rw [hq] at hx; cases hx
      ·rw [hq] at hx; exact ⟨d, rfl, by injection hx⟩
     have HD := iD hd;have JU : d < m.length := (uM m _ _ _ hd).2.1;have Jy := VB.step hd;rw [← hu.out] at Jy;replace Jy := iD Jy;obtain ⟨gk, y, rfl, IW, Bh, hy, JV, VA, hst⟩ := hO.at JU;obtain ⟨z, ER, GJ, JN, IM⟩ := iL how hlt;rw [Am.out] at ER;injection ER with ER;subst ER;have Ar := iD GJ;have BG := iD hst;clear hx hd hy GJ JN IM hst;obtain ⟨sh, Ab⟩ := eX (u - 1 - j);rw [← Ab] at Jy;have Ay : sh ≤ 8 := by omega
     obtain ⟨u1, Aw⟩ := eX (u - 1);have e1 : IntKind.i64.wrap ((u : Int) - 1) = (u1 : Int) := by rw [IntWalk.i64_in _ (by omega)]; omega
     have e2 : IntKind.i64.wrap ((u1 : Int) - (j : Int)) = (sh : Int) := by rw [IntWalk.i64_in _ (by omega)]; omega
     have e3 := eE k sh;have TP : k >>> sh % 2 < 2 := Nat.mod_lt _ (by decide);generalize k >>> sh % 2 = q at *;have e4 : IntKind.i64.wrap (1 + (q : Int)) = 1 + (q : Int) := IntWalk.i64_in _ (by omega);clear Ab Aw;have NL := iD (BG (1 + (q : Int)));have AW := iD (how.kept (zg wr ⟨gk, d, none⟩ (.int .i64 (1 + (q : Int)))) (zb fun b e => by have := (how.lt b e); simp [Value.ownBlock] at e; simp; omega));have Pg := iD (Ei.far (p := ⟨gk, d, none⟩) IW (.int .i64 (1 + (q : Int))));have Ai := iD (AU.setCell (p := ⟨gk, d, none⟩) (by simp; omega) (.int .i64 (1 + (q : Int))));have NI : Hid (Bk ≤ (wr.setCell ⟨gk, d, none⟩ (.int .i64 (1 + (q : Int)))).heap.size) := by have := hz.out; unfold Hid; simpa [World.setCell] using this
     have AY : Hid ((wr.setCell ⟨gk, d, none⟩ (.int .i64 (1 + (q : Int)))).cell? ⟨g, k, none⟩ = some (.slice (some ⟨gk, 0, none⟩) m.length ck)) := (World.cell?_setCell_other _ _ _ _ (fun e => by injection e with e1; omega)).trans Ar.out;go_upto_region 13 with (fail);refine fv (fun W' => W'.cell? ⟨g, k, none⟩ = some (.slice (some ⟨gk, 0, none⟩) m.length ck)) [] ?_ fun AA => ?_
     ·exact Ar.out
     try dsimp only at AA
     refine tk 0 39 (mf 16 1) AA ?_;refine tk 1 40 (mf 16 2) AA ?_;refine tk 2 41 (mf 16 3) AA ?_;refine tk 3 42 (mf 16 4) AA ?_;refine tk 4 43 (mf 16 5) AA ?_;refine tk 5 44 (mf 16 6) AA ?_;refine tk 6 45 (mf 16 7) AA ?_;refine tk 7 46 (mf 16 8) AA ?_;refine tk 8 47 (mf 16 9) AA ?_;refine tk 9 48 (mf 16 10) AA ?_;refine tk 10 49 (mf 16 11) AA ?_;refine tk 11 50 (mf 16 12) AA ?_;refine tk 12 51 (mf 16 13) AA ?_;refine tk 13 52 (mf 16 14) AA ?_;refine tk 14 53 (mf 16 15) AA ?_;refine tb 15 (mf 16 16) fun K hK => ?_
     go_simp
     refine hK _ _ (fun _ => AY.out) fun p => (fun AA => ?_) (p rfl)
     clear p hK K;(try dsimp only at AA);refine tK ?_;clear AA e1 e2 e3 e4 JV VA
     go_wp2_with fail
     go_roundg (u - (j + 1))
     ·exact ⟨j + 1, _, by go_num, by omega, rfl, AW, Pg, Ai.drew, NL, Jy, NI⟩
     omega
    ·obtain rfl : j = u := by omega
     have IV : decide (j < j) = false := by simp
     have BW : Hid (l = Jj m m.length k) := by
      have := VB.out;rw [hu.out] at this;exact this.done
     have Aa := iD (Ei.put BW Am hO.sl hz Ba)
     go_wp2_with fail
     go_roundg (P - (k + 1))
     ·exact ⟨k + 1, _, by go_num, by omega, rfl, how, Aa, AU⟩
     omega
  ·obtain rfl : k = P := by omega
   have Jo : decide (k < k) = false := by simp
   go_wp2_with fail
   go_ret2;refine ⟨.inr ⟨HE, _, k, k, rfl, vs, Sl.of_own how, ?_, fun j l hl => ?_⟩, AQ.trans (AU.mono Af)⟩
   ·unfold yp; rw [tl, ← HP.out]
   ·have Eh : j < k := by
     have := (List.getElem?_eq_some_iff.1 hl).1;unfold yp at this; rw [tl, ← HP.out] at this; exact this
    obtain ⟨Aj, cj, h1, h2, _⟩ := Ei j Eh
    have : l = Jj m m.length j := by
     unfold yp at hl;rw [gK m (by rw [← HP.out]; exact Eh)] at hl;injection hl with hl; exact hl.symm
    subst this;have hsl : (Jj m m.length j).length = m.length := by unfold Jj; simp
    rw [hsl];exact ⟨Aj, cj, h1, h2⟩
structure xk (ns : List Nd) (ds : List Dv) : Prop where
 e : yf ns.length ds
 a : Im ns.length ds
 k : ∀ x ∈ ds, 1 ≤ x.kind ∧ x.kind ≤ 6
 ne : ∀ x ∈ ds, zV x.kind = true → x.b ≠ x.a
 nl : ns.length ≤ 32
 dl : ds.length ≤ 64
theorem kM {k : Int} : ∀ (ds : List Dv) (used : List (List UInt8)), vm k used ds = 0 → ∀ x ∈ ds, (1 ≤ x.kind ∧ x.kind ≤ 6) ∧ xX x.kind x.a x.b k = true
 | [], _, _, x, hx => by cases hx
 | y :: r, used, h, x, hx => by
  rw [vm] at h;by_cases h0 : xp k used y = 0
  ·rw [if_pos h0] at h;rcases List.mem_cons.1 hx with rfl | hx
   ·unfold xp at h0;by_cases h1 : yO (BA x.name) = false
    ·rw [if_pos h1] at h0; cases h0
    by_cases h2 : BA x.name ∈ used
    ·rw [if_neg h1, if_pos h2] at h0; cases h0
    by_cases h3 : x.kind < 1 ∨ 6 < x.kind
    ·rw [if_neg h1, if_neg h2, if_pos h3] at h0; cases h0
    by_cases h4 : xX x.kind x.a x.b k = false
    ·rw [if_neg h1, if_neg h2, if_neg h3, if_pos h4] at h0; cases h0
    exact ⟨by omega, by simpa using h4⟩
   ·exact kM r _ h x hx
  ·rw [if_neg h0] at h; exact absurd h h0
theorem xk.of (h : zR ns ds = 0) : xk ns ds := by
 unfold zR at h;by_cases h1 : 32 < ns.length
 ·rw [if_pos h1] at h; cases h
 by_cases h2 : 64 < ds.length
 ·rw [if_neg h1, if_pos h2] at h; cases h
 by_cases h3 : vC [] ns = 0
 ·rw [if_neg h1, if_neg h2, if_pos h3] at h;have H := kM ds _ h
  have E : ∀ x ∈ ds, 0 ≤ x.a ∧ x.a < ns.length ∧ (zV x.kind = true → 0 ≤ x.b ∧ x.b < ns.length ∧ x.b ≠ x.a) := fun x hx => by
   have := (H x hx).2;unfold xX at this;split at this
   ·cases this
   ·next e1 =>
    split at this
    ·cases this
    ·next e2 =>
     refine ⟨by omega, by omega, fun hj => ?_⟩;rw [if_neg (by rw [hj]; simp)] at this;simp at this;omega
  exact ⟨fun x hx hj => ⟨⟨(E x hx).1, (E x hx).2.1⟩, ((E x hx).2.2 hj).1, ((E x hx).2.2 hj).2.1⟩, fun x hx => ⟨(E x hx).1, (E x hx).2.1⟩, fun x hx => (H x hx).1, fun x hx hj => ((E x hx).2.2 hj).2.2, by omega, by omega⟩
 ·rw [if_neg h1, if_neg h2, if_neg h3] at h; exact absurd h h3
theorem yv (h : zQ ns ds s = 0) : zR ns ds = 0 ∧ s.length = ds.length := by
 unfold zQ at h;split at h
 ·next h1 => exact absurd h h1
 next h1 =>
 split at h
 ·cases h
 next h2 => exact ⟨by simpa using h1, by omega⟩
theorem zS (h : zU ns ds s = 0) : zR ns ds = 0 ∧ s.length = ds.length ∧ ∀ p ∈ s, zl p = true := by
 unfold zU at h;split at h
 ·next h1 => exact absurd h h1
 next h1 =>
 split at h
 ·cases h
 next h2 =>
 split at h
 ·next h3 => exact ⟨by simpa using h1, by omega, h3⟩
 ·cases h
structure yc (w : World) (An Ad As Al Ap : Option Addr) (nn cn nd cd n c nl cl np cp : Nat) (ns : List Nd) (ds : List Dv) (s : List Int) (ls : List Lk) (pr : List Int) : Prop where
 hn : BI w 3 An nn cn (ns.flatMap Nd.cells)
 hd : BI w 5 Ad nd cd (ds.flatMap Dv.cells)
 hs : BI w 1 As n c (zE s)
 hl : BI w 3 Al nl cl (ls.flatMap Lk.cells)
 hp : BI w 1 Ap np cp (zE pr)
 la : Laid w
 sn : ∀ x ∈ ns, x.name.size ≤ 9223372036854775807
 sd : ∀ x ∈ ds, x.name.size ≤ 9223372036854775807
section
variable {w W : World} {An Ad As Al Ap : Option Addr} {nn cn nd cd n c nl cl np cp : Nat} {ns : List Nd} {ds : List Dv} {s : List Int} {ls : List Lk} {pr : List Int}
theorem yc.below (h : yc w An Ad As Al Ap nn cn nd cd n c nl cl np cp ns ds s ls pr) (hb : bW w W) : yc W An Ad As Al Ap nn cn nd cd n c nl cl np cp ns ds s ls pr :=
 ⟨(h.hn.below hb lR).more hb.size, (h.hd.below hb lR).more hb.size, (h.hs.below hb lR).more hb.size, (h.hl.below hb lR).more hb.size, (h.hp.below hb lR).more hb.size, h.la.below hb lR, h.sn, h.sd⟩
theorem yc.ln (h : yc w An Ad As Al Ap nn cn nd cd n c nl cl np cp ns ds s ls pr) : ns.length = nn ∧ ds.length = nd ∧ s.length = n := ⟨h.hn.len (fun _ => rfl) (by decide), h.hd.len (fun _ => rfl) (by decide), h.hs.len (fun _ => rfl) (by decide)⟩
end
structure IK (w : World) (nt op gr : Array Value) (W : World) : Prop where
 bl : bW w W
 bn : AJ W w.heap.size 30 nt
 bo : AJ W (w.heap.size + 1) 77 op
 bg : AJ W (w.heap.size + 2) 37 gr
theorem IK.new (w : World) (nt op gr : Array Value) : IK w nt op gr (((w.alloc (.cells nt 30)).alloc (.cells op 77)).alloc (.cells gr 37)) := by
 refine ⟨(((Below.refl _ _).alloc lR _).alloc (by simp) _).alloc (by simp; omega) _, ((AJ.new _ _ _).alloc _).alloc _, ?_, ?_⟩
 ·have := (AJ.new (w.alloc (.cells nt 30)) 77 op).alloc (.cells gr 37);simpa using this
 ·have := AJ.new ((w.alloc (.cells nt 30)).alloc (.cells op 77)) 37 gr;simpa using this
theorem IK.later {W W' : World} {nt op gr : Array Value} (h : IK w nt op gr W) (hb : bW W W') : IK w nt op gr W' :=
 ⟨h.bl.trans (hb.mono h.bl.size), h.bn.below hb h.bn.lt, h.bo.below hb h.bo.lt, h.bg.below hb h.bg.lt⟩
theorem IK.cells {W : World} {nn cn cd nl cl np cp : Nat} {An Ad Al Ap : Option Addr} (h : IK w #[.slice An nn cn, .slice Ad nd cd] #[.int .i64 d, .int .i64 p] #[.int .i64 co, .slice Al nl cl, .slice Ap np cp] W) :
 (W.cell? ⟨w.heap.size, 0, none⟩ = some (.slice An nn cn) ∧ W.cell? ⟨w.heap.size, 1, none⟩ = some (.slice Ad nd cd)) ∧ (W.cell? ⟨w.heap.size + 1, 0, none⟩ = some (.int .i64 d) ∧ W.cell? ⟨w.heap.size + 1, 1, none⟩ = some (.int .i64 p)) ∧ W.cell? ⟨w.heap.size + 2, 0, none⟩ = some (.int .i64 co) ∧ W.cell? ⟨w.heap.size + 2, 1, none⟩ = some (.slice Al nl cl) ∧ W.cell? ⟨w.heap.size + 2, 2, none⟩ = some (.slice Ap np cp) :=
 ⟨⟨h.bn.cell 0, h.bn.cell 1⟩, ⟨h.bo.cell 0, h.bo.cell 1⟩, h.bg.cell 0, h.bg.cell 1, h.bg.cell 2⟩
def yS (nd : Nat) (d p co : Int) : Int := if d < 0 then 8 else if (nd : Int) ≤ d then 8 else if p ≠ 1 ∧ p ≠ 2 then 10 else if co < 0 then 5 else if 7 < co then 5 else 0
theorem nc (An Ad Al Ap : Option Addr) (nn cn nd cd nl cl np cp : Nat) (d p co : Int) (w : World) (_hndm : nd ≤ 9223372036854775807) :
 Calls prog 124 #[.agg #[.slice An nn cn, .slice Ad nd cd], .agg #[.int .i64 d, .int .i64 p], .agg #[.int .i64 co, .slice Al nl cl, .slice Ap np cp]] w fun e w' => e = .returned (.int .i64 (yS nd d p co)) ∧ bW w w' := by
 have HE : Hid (yS nd d p co = if d < 0 then 8 else if (nd : Int) ≤ d then 8 else if p ≠ 1 ∧ p ≠ 2 then 10 else if co < 0 then 5 else if 7 < co then 5 else 0) := rfl;have HB := iD (IK.new w #[.slice An nn cn, .slice Ad nd cd] #[.int .i64 d, .int .i64 p] #[.int .i64 co, .slice Al nl cl, .slice Ap np cp]).bl;by_cases h1 : d < 0
 ·go_enter func124, ntmps124
  go_wp2_with fail
  go_ret;exact ⟨zC (by rw [HE.out, if_pos (by omega)]), HB⟩
 have q1 : decide (d < 0) = false := by simpa using h1
 by_cases h2 : (nd : Int) ≤ d
 ·go_enter func124, ntmps124
  go_wp2_with fail
  go_ret;exact ⟨zC (by rw [HE.out, if_neg (by omega), if_pos (by omega)]), HB⟩
 have q2 : decide ((nd : Int) ≤ d) = false := by simpa using h2
 by_cases h3 : p ≠ 1 ∧ p ≠ 2
 ·have q3 : (p != 1) = true := by simpa using h3.1
  have q4 : (p != 2) = true := by simpa using h3.2
  go_enter func124, ntmps124
  go_wp2_with fail
  go_ret;exact ⟨zC (by rw [HE.out, if_neg (by omega), if_neg (by omega), if_pos (by omega)]), HB⟩
 have Hf : Hid (yS nd d p co = if co < 0 then 5 else if 7 < co then 5 else 0) := by unfold Hid; rw [HE.out, if_neg (by omega), if_neg (by omega), if_neg (by omega)]
 clear HE;by_cases h4 : co < 0
 ·rcases (show p = 1 ∨ p = 2 by omega) with rfl | rfl
  ·go_enter func124, ntmps124
   go_wp2_with fail
   go_ret;exact ⟨zC (by rw [Hf.out, if_pos (by omega)]), HB⟩
  ·go_enter func124, ntmps124
   go_wp2_with fail
   go_ret;exact ⟨zC (by rw [Hf.out, if_pos (by omega)]), HB⟩
 have q5 : decide (co < 0) = false := by simpa using h4
 have PZ : Hid (yS nd d p co = if 7 < co then 5 else 0) := by unfold Hid; rw [Hf.out, if_neg (by omega)]
 clear Hf;by_cases h5 : 7 < co
 ·rcases (show p = 1 ∨ p = 2 by omega) with rfl | rfl
  ·go_enter func124, ntmps124
   go_wp2_with fail
   go_ret;exact ⟨zC (by rw [PZ.out, if_pos (by omega)]), HB⟩
  ·go_enter func124, ntmps124
   go_wp2_with fail
   go_ret;exact ⟨zC (by rw [PZ.out, if_pos (by omega)]), HB⟩
 have q6 : decide (7 < co) = false := by simpa using h5
 rcases (show p = 1 ∨ p = 2 by omega) with rfl | rfl
 ·go_enter func124, ntmps124
  go_wp2_with fail
  go_ret;exact ⟨zC (by rw [PZ.out, if_neg (by omega)]), HB⟩
 ·go_enter func124, ntmps124
  go_wp2_with fail
  go_ret;exact ⟨zC (by rw [PZ.out, if_neg (by omega)]), HB⟩
theorem rq (h : yS nd d p co = 0) : (0 ≤ d ∧ d < nd) ∧ (p = 1 ∨ p = 2) ∧ 0 ≤ co ∧ co ≤ 7 := by
 unfold yS at h;split at h
 ·cases h
 split at h
 ·cases h
 split at h
 ·cases h
 split at h
 ·cases h
 split at h
 ·cases h
 omega
theorem eXx {An Ad As Al Ap : Option Addr} {nn cn cd nl cl np cp : Nat} {pr : List Int} (h : yc w An Ad As Al Ap nn cn nd cd n c nl cl np cp ns ds s ls pr) (h0 : zQ ns ds s = 0) (he : yS nd d p co = 0) :
 ∃ x : Dv, ds[d.toNat]? = some x ∧ Calls prog 125 #[.agg #[.slice An nn cn, .slice Ad nd cd], .slice As n c, .agg #[.int .i64 d, .int .i64 p], .agg #[.int .i64 co, .slice Al nl cl, .slice Ap np cp]] w (xB w (vU nn ns ds s d.toNat p co ls pr x)) := by
 obtain ⟨h1, h2, h3⟩ := h.ln;obtain ⟨hd, hp, _⟩ := rq he;obtain ⟨k, rfl⟩ := Int.eq_ofNat_of_zero_le hd.1;obtain ⟨hc, hsl⟩ := yv h0;have H := xk.of hc;have hk : k < ds.length := by omega
 have hx : ds[k]? = some (ds[k]'hk) := List.getElem?_eq_getElem hk;have E := H.e; have A := H.a; have nl := H.nl; have dl := H.dl;rw [h1] at E A;refine ⟨_, hx, ?_⟩;exact fy An Ad As Al Ap nn cn nd cd n c _ cl np cp _ _ _ _ _ k p co ns ds s ls pr _ w h.la h.hn lR h.hd lR h.hs lR h.hl lR h.hp lR h.sn h.sd h0 (by omega) (by omega) (by omega) (by omega) hx E A hp (H.k _ (List.getElem_mem hk))
def zy (ns : List Nd) (ds : List Dv) (m : List Int) (d p co : Int) : Int := if zU ns ds m = 0 then (if yS ds.length d p co = 0 then yG m else yS ds.length d p co) else zU ns ds m
def kU (w : World) (ns : List Nd) (ds : List Dv) (m : List Int) (d p co : Int) (e : Ending) (w' : World) : Prop :=
 (zy ns ds m d p co ≠ 0 ∧ e = .returned (.tuple #[.slice none 0 0, .int .i64 (zy ns ds m d p co)]) ∨ zy ns ds m d p co = 0 ∧ ∃ (A : Option Addr) (k c : Nat), e = .returned (.tuple #[.slice A k c, .int .i64 0]) ∧ Hid (xG w' w'.heap.size A k c (yp m))) ∧ Hid (Below w.heap.size w w')
theorem mY (An Ad As Al Ap : Option Addr) (nn cn nd cd n c nl cl np cp : Nat) (ns : List Nd) (ds : List Dv) (m : List Int) (ls : List Lk) (pr : List Int) (d p co : Int) (w : World) (h : yc w An Ad As Al Ap nn cn nd cd n c nl cl np cp ns ds m ls pr) :
 Calls prog 169 #[.agg #[.slice An nn cn, .slice Ad nd cd], .slice As n c, .agg #[.int .i64 d, .int .i64 p], .agg #[.int .i64 co, .slice Al nl cl, .slice Ap np cp]] w (kU w ns ds m d p co) := by
 obtain ⟨Da, Hl, ES⟩ := h.ln;have RI := h.hd.le;have HB := iD (IK.new w #[.slice An nn cn, .slice Ad nd cd] #[.int .i64 d, .int .i64 p] #[.int .i64 co, .slice Al nl cl, .slice Ap np cp]);have HH := iD h;clear h;have Ph : Hid (zy ns ds m d p co = if zU ns ds m = 0 then (if yS nd d p co = 0 then yG m else yS nd d p co) else zU ns ds m) := by unfold Hid zy; rw [Hl]
 go_enter func169, ntmps169
 go_wp2_with fail
 generalize World.alloc (World.alloc (World.alloc w _) _) _ = W at *;have HM := iD (HH.below HB.bl);have HC := iD (uC An Ad As nn cn nd cd n c W.heap.size W.heap.size W.heap.size ns ds m W HM.la HM.hn HM.hd HM.hs lR lR lR HM.sn HM.sd);refine HC.mono ?_;rintro e w1 ⟨rfl, AV⟩;have AQ := iD (HB.later AV);clear AV HC HM HB;by_cases h0 : zU ns ds m = 0; rotate_left
 ·have q : (zU ns ds m == 0) = false := by simpa using h0
  have q2 : (zU ns ds m != 0) = true := by simpa using h0
  have HR : Hid (zy ns ds m d p co = zU ns ds m) := by unfold Hid; rw [Ph.out, if_neg h0]
  have H0 := iD h0;clear h0 Ph
  go_wp2_with fail
  go_ret2;exact ⟨.inl ⟨by rw [HR.out]; exact H0, by rw [HR.out]; rfl⟩, AQ.bl⟩
 have HR : Hid (zy ns ds m d p co = if yS nd d p co = 0 then yG m else yS nd d p co) := by unfold Hid; rw [Ph.out, if_pos h0]
 have H0 := iD h0;clear Ph;rw [h0];clear h0;obtain ⟨⟨k0, k1⟩, ⟨o0, o1⟩, g0, g1, g2⟩ := AQ.cells
 go_wp2_with fail
 clear k0 k1 o0 o1 g0 g1 g2;refine (nc An Ad Al Ap nn cn nd cd nl cl np cp d p co w1 (by omega)).mono ?_;rintro e w2 ⟨rfl, AZ⟩;have Ai := iD (AQ.later AZ);clear AZ AQ;by_cases he : yS nd d p co = 0; rotate_left
 ·have q : (yS nd d p co != 0) = true := by simpa using he
  have HE := iD he;have FJ : Hid (zy ns ds m d p co = yS nd d p co) := by unfold Hid; rw [HR.out, if_neg he]
  clear he HR
  go_wp2_with fail
  go_ret2;exact ⟨.inl ⟨by rw [FJ.out]; exact HE, by rw [FJ.out]; rfl⟩, Ai.bl⟩
 have FJ : Hid (zy ns ds m d p co = yG m) := by unfold Hid; rw [HR.out, if_pos he]
 rw [he];clear he HR
 have RJ : m.length ≤ 1000 := by
  obtain ⟨h1, h2, _⟩ := zS H0.out;have := (xk.of h1).dl;omega
 subst ES
 go_wp2_with fail
 refine (fH As c w2.heap.size m w2 (HH.below Ai.bl).la (HH.below Ai.bl).hs lR RJ).mono ?_;rintro e w3 ⟨⟨h1, rfl⟩ | ⟨h1, A, k, ca, rfl, hR⟩, BX⟩
 ·have H1 := iD h1;clear h1
  go_wp2_with fail
  go_ret2;exact ⟨.inl ⟨by rw [FJ.out]; exact H1, by rw [FJ.out]; rfl⟩, Ai.bl.trans (BX.mono Ai.bl.size)⟩
 ·have H1 := iD h1;clear h1
  go_wp2_with fail
  go_ret2;exact ⟨.inr ⟨by rw [FJ.out]; exact H1, A, k, ca, rfl, hR⟩, Ai.bl.trans (BX.mono Ai.bl.size)⟩
section
open Go.Sort (grow)
instance : Inhabited Lk := ⟨⟨0, 0, 0⟩⟩
theorem nj (ls : List Lk) : Go.Sort.flatK Lk.cells 3 ls.toArray = (ls.flatMap Lk.cells).toArray := by
 apply Array.ext'
 simp only [Go.Sort.flatK, Array.toList_map, Array.toList_range, List.size_toArray]
 apply List.ext_getElem?
 intro t;rw [List.getElem?_map];by_cases ht : t < ls.length * 3
 ·rw [List.getElem?_range ht];have h3 : t = t / 3 * 3 + t % 3 := by omega
  have hq : t / 3 < ls.length := by omega
  have := uT (f := Lk.cells) (size := 3) (fun _ => rfl) ls (t / 3) (t % 3) _ (List.getElem?_eq_getElem hq) (by omega);rw [← h3] at this;rw [this];simp only [Option.map_some];have hr : t % 3 < (Lk.cells ls[t / 3]).length := by show t % 3 < 3; omega
  rw [List.getElem?_eq_getElem hr]
  congr 1
  have e1 : ls.toArray[t / 3]! = ls[t / 3] := by simp [hq]
  rw [e1, List.getElem!_eq_getElem?_getD, List.getElem?_eq_getElem hr]; rfl
 ·rw [List.getElem?_eq_none (by simp; omega), List.getElem?_eq_none (by rw [yT (size := 3) (fun _ => rfl)]; omega)]; rfl
theorem iw {cur : Array Value} (hb : w.heap[g]? = some (.cells cur e (0, 0))) (ht : cur.toList.take (ls.length * 3) = ls.flatMap Lk.cells) : Go.Sort.HoldsK Lk.cells 3 w g 0 ls.toArray := by
 unfold Go.Sort.HoldsK;rw [nj];intro j hj;have hj' : j < ls.length * 3 := by rw [List.size_toArray, yT (size := 3) (fun _ => rfl)] at hj; exact hj
 refine ⟨?_, by simp [World.frozen?, hb]⟩;have h1 : (cur.toList.take (ls.length * 3))[j]? = (ls.flatMap Lk.cells)[j]? := by rw [ht]
 rw [List.getElem?_take_of_lt hj', Array.getElem?_toList] at h1;have h2 := cell_of_row w g (0 + j) _ _ _ hb;rw [h2, Nat.zero_add, h1];have hl : j < (ls.flatMap Lk.cells).length := by rw [yT (size := 3) (fun _ => rfl)]; exact hj'
 rw [List.getElem?_eq_getElem hl];simp only [id, List.getElem!_toArray, List.getElem!_eq_getElem?_getD];rw [List.getElem?_eq_getElem hl]; rfl
theorem nG {cap m : Nat} {os : Array Obj} {cur : Array Value} (hx : xs.length = m * size) (CR : base ≤ g) (hb : w.heap[g]? = some (.cells cur e (0, 0))) (h1 : m ≤ cap) (h2 : cap ≤ maxLen) (h3 : cur.size = cap * size) :
 (grow (Go.Sort.putRow id (Go.Sort.ahead w n) g 0 xs.toArray) os).ownsRow base e size (.slice (some ⟨g, 0, none⟩) m cap) m xs := by
 have hg : g < w.heap.size := (Array.getElem?_eq_some_iff.1 hb).1;refine ⟨hx, .inr ⟨g, cap, Go.Sort.putCells id 0 xs.toArray cur, rfl, CR, ?_, h1, h2, by simp [Go.Sort.putCells, h3], ?_⟩⟩
 ·rw [Go.Sort.heap_grow_old _ _ (by simpa using hg)];simp [Go.Sort.putRow, Go.Sort.mapBlock, Go.Sort.ahead, Array.getElem?_modify, hb, Go.Sort.onCells]
 ·rw [← hx];have hle : xs.length ≤ cur.size := by rw [hx, h3]; exact Nat.mul_le_mul_right _ h1
  apply List.ext_getElem?
  intro j;by_cases hj : j < xs.length
  ·rw [List.getElem?_take_of_lt hj, Array.getElem?_toList];simp [Go.Sort.putCells, hj, show j < cur.size by omega]
  ·rw [List.getElem?_take_eq_none (by omega), List.getElem?_eq_none (by omega)]
theorem qX {os : Array Obj} (d : Array Value) : w.grownBy (grow (Go.Sort.putRow id (Go.Sort.ahead w n) g 0 d) os) (some g) := by
 refine ⟨rfl, rfl, rfl, by simp, fun k hk hne => ?_⟩;rw [Go.Sort.heap_grow_old _ _ (by simpa using hk)];have : g ≠ k := fun e => hne (by rw [e])
 simp [Go.Sort.putRow, Go.Sort.mapBlock, Go.Sort.ahead, Array.getElem?_modify, this]
theorem gV : Go.Sort.SWO (ltOf px) := by
 have key : ∀ x y, ltOf px x y = zq x y := fun x y => by
  unfold ltOf;rcases h : zq x y with _ | _
  ·have := rc x y; rw [h] at this; simp at this ⊢; omega
  ·have := rc x y; rw [h] at this; simp at this ⊢; omega
 refine ⟨fun x => ?_, fun x y z => ?_, fun x y z => ?_⟩
 ·rw [key]; unfold zq; simp
 ·rw [key, key, key]; exact sQ
 ·rw [key, key, key];intro h1 h2;rcases h : zq x z with _ | _
  ·rfl
  ·have a1 : ¬ zq x y = true := by rw [h1]; simp
   have a2 : ¬ zq y z = true := by rw [h2]; simp
   rw [uX] at a1 a2 h; omega
theorem fw (x y : Lk) : ltOf px x y = zq x y := by
 unfold ltOf;rcases h : zq x y with _ | _
 ·have := rc x y; rw [h] at this; simp at this ⊢; omega
 ·have := rc x y; rw [h] at this; simp at this ⊢; omega
theorem rR (A : Option Addr) (n c base : Nat) (ls : List Lk) (w : World) (h : zk w base A n c ls) (h0 : 0 < n) (hn : n ≤ 1000000) :
 Calls prog 162 #[.slice A n c, .func (.func 133) #[] #[]] w fun e w' => e = .returned (.tuple #[]) ∧ ∃ ms : List Lk, Hid (ms.Perm ls) ∧ Hid (ms.Pairwise fun x y => zq y x = false) ∧ Hid (zk w' base A n c ms) ∧ Hid (w.grownBy w' (Value.slice A n c).ownBlock) := by
 have hl := h.len;rcases h.2 with ⟨_, h1⟩ | ⟨g, cap, cur, hv, hb, hh, Ip, hm, hs, ht⟩
 ·omega
 ·injection hv with h1 h2 h3;subst h1 h3;subst hl
  have AH := AnyQ.slices_SortFunc sortLkSort 3 isAgg106 sizeOf106 Lk.cells (fun _ => rfl) (fun x v hv => by simp [Lk.cells] at hv; rcases hv with rfl | rfl | rfl <;> rfl) px gV 133 #[] g 0 c ls.toArray w
   (enters_of func133 (by kernel_rfl) rfl) (fun _ _ _ _ x y => pB x y _) (iw hh ht) (h.lt g rfl).2 (by simp; omega)
  refine AH.mono ?_;rintro e w1 ⟨rfl, d', k, os, ⟨hz, _, hp⟩, Ax, rfl⟩;have hz' : d'.toList.length = ls.length := by simpa using hz
  refine ⟨rfl, d'.toList, ?_, ?_, ?_, qX _⟩
  ·have e2 : (ls.toArray.extract 0 ls.toArray.size).toList = ls := by simp
   have e3 : (d'.extract 0 ls.toArray.size).toList = d'.toList := by rw [← hz]; simp
   rw [e2, e3] at hp;exact hp
  ·show List.Pairwise _ _
   rw [List.pairwise_iff_getElem];intro i j hi hj JR;have GJ : d'.size = ls.length := by simpa using hz
   have := Ax i j (Nat.zero_le _) JR (by simp at hj ⊢; omega);rw [fw] at this;have hi' : i < d'.size := by simpa using hi
   have hj' : j < d'.size := by simpa using hj
   rw [getElem!_pos d' i hi', getElem!_pos d' j hj'] at this;simpa using this
  ·have := nG (n := k) (os := os) (xs := d'.toList.flatMap Lk.cells) (m := ls.length) (size := 3) (by rw [yT (size := 3) (fun _ => rfl), hz']) hb hh Ip hm hs;rw [← nj] at this;exact this
end
theorem og {ms : List Lk} {k : Lk} (hg : xz ds (ww k ls)) (hp : ms.Perm (ls ++ [k])) (hs : ms.Pairwise fun x y => zq y x = false) : ms = ww k ls := by
 have Ac : ms.Perm (ww k ls) := hp.trans (io k ls).symm;have hk : (ww k ls).Pairwise fun a b : Lk => a.key ≠ b.key := hg.2.2.imp fun h => h.2.2
 have BJ : ms.Pairwise fun a b : Lk => a.key ≠ b.key := Ac.symm.pairwise hk (fun h e => h e.symm)
 refine ig ?_ hg.sorted (fun x => Ac.mem_iff);exact (hs.and BJ).imp fun ⟨h1, h2⟩ => pX (fun e => h2 e.symm) h1
theorem iJ (hb : base ≤ w.heap.size) : (w.alloc (.cells #[] e)).ownsRow base e 3 (.slice (some ⟨w.heap.size, 0, none⟩) 0 0) 0 [] :=
 ⟨rfl, .inr ⟨w.heap.size, 0, #[], rfl, hb, heap_alloc_new w _, Nat.le_refl _, by simp [maxLen], rfl, rfl⟩⟩
theorem tP (A : Option Addr) (n c : Nat) (w : World) : (binOp BinOp.eql 35 (.slice A n c) (.slice none 0 0)).run prog w = .ok (.bool A.isNone) w := by
 cases A <;> kernel_rfl
theorem vI (A : Option Addr) (n c B : Nat) (l : List Lk) (w : World) (hs : Sl w B 3 A n c (l.flatMap Lk.cells)) (hB : B ≤ w.heap.size) (hn : n ≤ 1000000) : Calls prog 75 #[.slice A n c] w fun e w' => ∃ (A' : Option Addr) (c' : Nat), e = .returned (.slice A' l.length c') ∧ Hid (zk w' w.heap.size A' l.length c' l) ∧ Hid (bW w w') := by
 have hl := hs.len (fun _ => rfl) (by decide);have HL := iD hl; clear hl;cases A with
 | none =>
  have h0 : n = 0 := by have := hs.2.2.2.1 rfl; have := hs.le; omega
  subst h0;have Ns : l = [] := List.eq_nil_of_length_eq_zero HL.out;subst Ns;clear hs HL;have GY := tP none 0 c w;simp only [Option.isNone_none] at GY
  go_enter func75, ntmps75
  go_wp2_with fail
  go_ret;exact ⟨none, 0, rfl, World.ownsRow_nil _ _ _ _, Below.refl _ _⟩
 | some a =>
  have HS := iD hs;have hH := hs.le;clear hs;have GY := tP (some a) n c w;simp only [Option.isNone_some] at GY
  go_enter func75, ntmps75
  have h1 : ∀ u ∈ l.flatMap Lk.cells, u.oneCell' = true := yl l
  have BO := iD (HS.alloc hB (.cells #[] 106))
  go_wp2_with (at_builtin; go_must (refine zM rfl (.tmp 5) (.tmp 6) rfl yb (base := w.heap.size) (n := 0) (xs := []) (by rfl) (iJ lR) (by rfl) BO h1 (by omega) (by omega) (by simp) ?_; intro A' cap' w2 EF Gb LU; simp only [Nat.zero_add, List.nil_append] at EF Gb; have HO := iD EF; have HG := iD Gb; clear EF Gb LU))
  go_ret;obtain rfl : l.length = n := HL.out;exact ⟨A', cap', rfl, HO, ((Below.refl _ _).alloc lR _).trans (yE HG lR (by simp))⟩
theorem vE {w4 w5 w6 : World} {o : Obj} (h5 : Below w4.drew.heap.size w4.drew w5) (ho : w5.ownsRow w4.drew.heap.size e size (.slice A n c) n xs) (h6 : (w5.alloc o).grownBy w6 (Value.slice A n c).ownBlock) : bW w4 w6 := by
 have h1 : Below w4.heap.size w4 w5 := (Below.refl _ _).drew.trans h5;have h2 := h1.alloc h1.size o;exact h2.trans ⟨h6.os, h6.tape, h6.output, h6.size, fun t ht => h6.block t (by have := h2.size; omega) (fun e => by have := (ho.lt t e.symm).1; simp only [World.drew] at this; omega)⟩
theorem vD {w4 w5 w6 : World} {o : Obj} (h5 : Below (w4.drew.alloc o).heap.size (w4.drew.alloc o) w5) (ho : w5.ownsRow (w4.drew.alloc o).heap.size e size (.slice A n c) n xs) (h6 : w5.grownBy w6 (Value.slice A n c).ownBlock) : bW w4 w6 := by
 have hsz : (w4.drew.alloc o).heap.size = w4.heap.size + 1 := by simp
 have h1 : Below w4.heap.size w4 w5 := ((Below.refl _ _).drew.alloc (by simp) o).trans (h5.mono (by omega));exact h1.trans ⟨h6.os, h6.tape, h6.output, h6.size, fun t ht => h6.block t (by have := h1.size; omega) (fun e => by have := (ho.lt t e.symm).1; omega)⟩
theorem il (An Ad Al : Option Addr) (nn cn nd cd c Bn Bd Bl : Nat) (ns : List Nd) (ds : List Dv) (ls : List Lk) (d p q : Int) (w : World) (IE : Laid w) (hn : Sl w Bn 3 An nn cn (ns.flatMap Nd.cells)) (hd : Sl w Bd 5 Ad nd cd (ds.flatMap Dv.cells)) (hs : Sl w Bl 3 Al ls.length c (ls.flatMap Lk.cells)) (CS : Bn ≤ w.heap.size) (BP : Bd ≤ w.heap.size) (Dn : Bl ≤ w.heap.size)
 (Bg : FP ns) (BU : Fv ds) :
 Calls prog 131 #[.agg #[.slice An nn cn, .slice Ad nd cd], .slice Al ls.length c, .agg #[.int .i64 d, .int .i64 p, .int .i64 q]] w (pi w ns ds ls ⟨d, p, q⟩) := by
 obtain ⟨n, Hg⟩ := eX ls.length;rw [← Hg] at hs ⊢;have Ij := iD Hg;have HE : Hid (zh ns ds ls ⟨d, p, q⟩ = if zJ ns ds ls ≠ 0 then zJ ns ds ls else if zv ds ⟨d, p, q⟩ ≠ 0 then zv ds ⟨d, p, q⟩ else if yq ls q = true then 4 else if yd ls ⟨d, p, q⟩ = true then 18 else if n = 128 then 1 else 0) := by unfold Hid zh; rw [Hg]
 have hle := hs.le;have HD := iD hd; have HS := iD hs
 have BG : Hid (qZ w #[.slice An nn cn, .slice Ad nd cd] #[.int .i64 d, .int .i64 p, .int .i64 q] ((w.alloc (.cells #[.slice An nn cn, .slice Ad nd cd] 30)).alloc (.cells #[.int .i64 d, .int .i64 p, .int .i64 q] 106))) :=
  ⟨(AJ.new _ _ _).alloc _, by have := AJ.new (w.alloc (.cells #[.slice An nn cn, .slice Ad nd cd] 30)) 106 #[.int .i64 d, .int .i64 p, .int .i64 q]; simpa using this, ((Below.refl _ _).alloc lR _).alloc (by simp) _⟩
 have WP := iD ((IE.alloc (.cells #[.slice An nn cn, .slice Ad nd cd] 30)).alloc (.cells #[.int .i64 d, .int .i64 p, .int .i64 q] 106));have Ag := hn.below BG.bl CS;clear hd hs Hg IE
 go_enter func131, ntmps131
 go_upto_region 1 with (fail);generalize World.alloc (World.alloc _ _) _ = W at *;have hz := BG.bl.size;have Cm := iD (uw An Ad Al nn cn nd cd n c Bn Bd Bl ns ds ls W WP Ag (HD.below BG.bl BP) (HS.below BG.bl Dn) (by omega) (by omega) (by omega) Bg BU);obtain ⟨k0, k1⟩ := BG.bn.d2;clear Ag hn Bg BU WP
 go_wp2_with fail
 clear k0 k1;refine Cm.mono ?_;rintro e w1 ⟨rfl, AV⟩;have BO := iD (BG.later AV);clear AV BG hz Cm;by_cases h0 : zJ ns ds ls = 0; rotate_left
 ·have q0 : (zJ ns ds ls != 0) = true := by simpa using h0
  have q1 : (zJ ns ds ls == 0) = false := by simpa using h0
  have HR : Hid (zh ns ds ls ⟨d, p, q⟩ = zJ ns ds ls) := by unfold Hid; rw [HE.out, if_pos h0]
  have Ht := iD h0;clear h0
  go_wp2_with fail
  go_ret2;exact ⟨.inl (by rw [HR.out]; exact ⟨Ht, rfl⟩), BO.bl⟩
 have HG := iD (yw h0);rw [h0];replace HE : Hid (zh ns ds ls ⟨d, p, q⟩ = if zv ds ⟨d, p, q⟩ ≠ 0 then zv ds ⟨d, p, q⟩ else if yq ls q = true then 4 else if yd ls ⟨d, p, q⟩ = true then 18 else if n = 128 then 1 else 0) := by unfold Hid; rw [HE.out, if_neg (by simp [h0])]
 clear h0;obtain ⟨k0, k1⟩ := BO.bn.d2;obtain ⟨m0, m1, m2⟩ := BO.bk.d3;have ER := BO.bl.size
 go_wp2_with fail
 clear k0 k1 m0 m1 m2;refine (qj An Ad nn cn nd cd Bd ds d p q w1 (HD.below BO.bl BP) (by omega)).mono ?_;rintro e w2 ⟨rfl, AZ⟩;have DN := iD (BO.later AZ);clear AZ BO ER;by_cases h1 : zv ds ⟨d, p, q⟩ = 0; rotate_left
 ·have q0 : (zv ds ⟨d, p, q⟩ != 0) = true := by simpa using h1
  have HR : Hid (zh ns ds ls ⟨d, p, q⟩ = zv ds ⟨d, p, q⟩) := by unfold Hid; rw [HE.out, if_pos h1]
  have Ht := iD h1;clear h1
  go_wp2_with fail
  go_ret2;exact ⟨.inl (by rw [HR.out]; exact ⟨Ht, rfl⟩), DN.bl⟩
 have Aq := iD h1;rw [h1];replace HE : Hid (zh ns ds ls ⟨d, p, q⟩ = if yq ls q = true then 4 else if yd ls ⟨d, p, q⟩ = true then 18 else if n = 128 then 1 else 0) := by unfold Hid; rw [HE.out, if_neg (by simp [h1])]
 clear h1;have m2 := DN.bk.c2;have GJ := DN.bl.size
 go_wp2_with fail
 clear m2;refine (rO Al n c Bl ls q w2 (HS.below DN.bl Dn) (by omega)).mono ?_;rintro e w3 ⟨rfl, BX⟩;have Ew := iD (DN.later BX);clear BX DN GJ;rcases hu : yq ls q with _ | _;rotate_left
 ·have HR : Hid (zh ns ds ls ⟨d, p, q⟩ = 4) := by unfold Hid; rw [HE.out, if_pos hu]
  clear hu
  go_wp2_with fail
  go_ret2;exact ⟨.inl (by rw [HR.out]; exact ⟨by decide, rfl⟩), Ew.bl⟩
 replace HE : Hid (zh ns ds ls ⟨d, p, q⟩ = if yd ls ⟨d, p, q⟩ = true then 18 else if n = 128 then 1 else 0) := by unfold Hid; rw [HE.out, if_neg (by rw [hu]; simp)]
 have HU := iD hu;clear hu;obtain ⟨m0, m1, m2⟩ := Ew.bk.d3;have JN := Ew.bl.size
 go_wp2_with fail
 clear m0 m1 m2;refine (sG Al n c Bl ls d p q w3 (HS.below Ew.bl Dn) (by omega)).mono ?_;rintro e w4 ⟨rfl, Be⟩;have Bz := iD (Ew.later Be);clear Be Ew JN;rcases ho : yd ls ⟨d, p, q⟩ with _ | _;rotate_left
 ·have HR : Hid (zh ns ds ls ⟨d, p, q⟩ = 18) := by unfold Hid; rw [HE.out, if_pos ho]
  clear ho
  go_wp2_with fail
  go_ret2;exact ⟨.inl (by rw [HR.out]; exact ⟨by decide, rfl⟩), Bz.bl⟩
 replace HE : Hid (zh ns ds ls ⟨d, p, q⟩ = if n = 128 then 1 else 0) := by unfold Hid; rw [HE.out, if_neg (by rw [ho]; simp)]
 have HO := iD ho;clear ho;have QC : n ≤ 128 := by have := HG.1; have := Ij.out; omega
 by_cases Ec : n = 128
 ·have HR : Hid (zh ns ds ls ⟨d, p, q⟩ = 1) := by unfold Hid; rw [HE.out, if_pos Ec]
  have q1 : ((n : Int) == (128 : Int)) = true := by simp; omega
  have q2 : decide (n = 128) = true := by simpa using Ec
  clear Ec
  go_wp2_with fail
  go_ret2;exact ⟨.inl (by rw [HR.out]; exact ⟨by decide, rfl⟩), Bz.bl⟩
 have HR : Hid (zh ns ds ls ⟨d, p, q⟩ = 0) := by unfold Hid; rw [HE.out, if_neg Ec]
 have Jg := iD (rp HG Aq HU HO (by have := Ij.out; omega));have q1 : ((n : Int) == (128 : Int)) = false := by simp; omega
 have q2 : decide (n = 128) = false := by simpa using Ec
 clear Ec HE Aq HU HO;have Ah : Hid (w4.cell? ⟨w.heap.size + 1, 0, none⟩ = some (.int .i64 d) ∧ w4.cell? ⟨w.heap.size + 1, 1, none⟩ = some (.int .i64 p) ∧ w4.cell? ⟨w.heap.size + 1, 2, none⟩ = some (.int .i64 q)) := ⟨Bz.bk.cell 0, Bz.bk.cell 1, Bz.bk.cell 2⟩;have FI := iD (HS.below Bz.bl Dn);have IM := Bz.bl.size;have Hg := Ij.out;subst Hg;go_upto_region 12 with (fail);refine fv (fun W' => W'.cell? ⟨w.heap.size + 1, 0, none⟩ = some (.int .i64 d) ∧ W'.cell? ⟨w.heap.size + 1, 1, none⟩ = some (.int .i64 p) ∧ W'.cell? ⟨w.heap.size + 1, 2, none⟩ = some (.int .i64 q)) [] ?_ fun AA => ?_
 ·exact Ah.out
 try dsimp only at AA
 refine tk 0 35 (mf 6 1) AA ?_;refine tk 2 37 (ma 6 5) AA ?_;refine yM (i := 1) (k := 3) (mf 6 3) (ma 6 13) (by kernel_rfl) (by kernel_rfl) (by kernel_rfl) rfl rfl (fun K hK => ?_) (fun K hK => ?_)
 ·(go_simp; refine (vI Al ls.length c Bl ls w4.drew FI.drew (by simp only [World.drew]; omega) (by omega)).mono ?_; rintro e w5 ⟨A5, c5, rfl, ET, BN⟩; go_simp)
  refine hK _ _ (fun _ => ⟨zD BN Ah.1, zD BN Ah.2.1, zD BN Ah.2.2⟩) fun p => (fun AA => ?_) (p rfl)
  clear p hK K;(try dsimp only at AA);refine tb 3 (mf 6 4) fun K hK => ?_
  go_simp
  refine hK _ _ (fun _ => ⟨zp _ (zD BN Ah.1), zp _ (zD BN Ah.2.1), zp _ (zD BN Ah.2.2)⟩) fun p => (fun AA => ?_) (p rfl)
  clear p hK K;(try dsimp only at AA);refine tb 4 (mf 6 5) fun K hK => ?_
  (refine zt (d := some 39) (by rfl) (by rfl) (.tmp 36) (.tmp 38) (by rfl) yb (by rfl) (World.ownsRow.alloc ET _) (by rfl) (Sl.newest (n := 1) (by simp) (by rfl) (by decide)) (by simp [Value.oneCell']) (by omega) (by omega) (by have := BN.size; simp at this ⊢; omega) ?_; intro A6 c6 w6 BV BD Dw)
  refine hK _ _ (fun _ => ⟨zD (vE BN ET BD) Ah.1, zD (vE BN ET BD) Ah.2.1, zD (vE BN ET BD) Ah.2.2⟩) fun p => (fun AA => ?_) (p rfl)
  clear p hK K;(try dsimp only at AA);refine tk 5 9 (mf 6 6) AA ?_;refine tK ?_;clear AA;have Dl : Hid (Below w4.heap.size w4 w6) := by first | exact vE BN ET BD | exact vD BN ET BD
  have Di : Hid (zk w6 w.heap.size A6 (ls.length + 1) c6 (ls ++ [⟨d, p, q⟩])) := by unfold Hid zk; rw [List.flatMap_append]; exact World.ownsRow.mono BV (by simp; omega)
  clear BV BD Dw ET BN
  go_wp2_with fail
  refine (rR A6 (ls.length + 1) c6 w.heap.size _ w6 Di (by omega) (by omega)).mono ?_;rintro e w7 ⟨rfl, ms, AE, hsm, AK, KM⟩
  go_wp2_with fail
  go_ret2;refine ⟨.inr ⟨HR, A6, c6, rfl, ?_⟩, ?_⟩
  ·rw [← og Jg.out AE.out hsm.out]; exact AK
  ·have h1 := Bz.bl.trans (Dl.mono Bz.bl.size); exact h1.trans ⟨KM.os, KM.tape, KM.output, KM.size, fun t ht => KM.block t (by have := h1.size; omega) (fun e => by have := (Di.lt t e.symm).1; omega)⟩
 ·go_simp
  refine hK _ _ (fun _ => ⟨zp _ Ah.1, zp _ Ah.2.1, zp _ Ah.2.2⟩) fun p => (fun AA => ?_) (p rfl)
  clear p hK K;(try dsimp only at AA);refine tb 1 (mf 6 4) fun K hK => ?_
  (go_simp; refine (vI Al ls.length c Bl ls _ (FI.drew.alloc (by simp only [World.drew]; omega) _) (by simp; omega) (by omega)).mono ?_; rintro e w5 ⟨A5, c5, rfl, ET, BN⟩; go_simp)
  refine hK _ _ (fun _ => ⟨zD BN (zp _ Ah.1), zD BN (zp _ Ah.2.1), zD BN (zp _ Ah.2.2)⟩) fun p => (fun AA => ?_) (p rfl)
  clear p hK K;(try dsimp only at AA);refine tb 4 (mf 6 5) fun K hK => ?_
  (refine zt (d := some 39) (by rfl) (by rfl) (.tmp 36) (.tmp 38) (by rfl) yb (by rfl) ET (by rfl) ((Sl.newest (w := w4.drew) (cs := #[.int .i64 d, .int .i64 p, .int .i64 q]) (T := 106) (n := 1) (size := 3) rfl (by rfl) (by decide)).below BN (by simp)) (by simp [Value.oneCell']) (by omega) (by omega) (by have := BN.size; simp at this ⊢; omega) ?_; intro A6 c6 w6 BV BD Dw)
  refine hK _ _ (fun _ => ⟨zD (vD BN ET BD) Ah.1, zD (vD BN ET BD) Ah.2.1, zD (vD BN ET BD) Ah.2.2⟩) fun p => (fun AA => ?_) (p rfl)
  clear p hK K;(try dsimp only at AA);refine tk 5 9 (mf 6 6) AA ?_;refine tK ?_;clear AA;have Dl : Hid (Below w4.heap.size w4 w6) := by first | exact vE BN ET BD | exact vD BN ET BD
  have Di : Hid (zk w6 w.heap.size A6 (ls.length + 1) c6 (ls ++ [⟨d, p, q⟩])) := by unfold Hid zk; rw [List.flatMap_append]; exact World.ownsRow.mono BV (by simp; omega)
  clear BV BD Dw ET BN
  go_wp2_with fail
  refine (rR A6 (ls.length + 1) c6 w.heap.size _ w6 Di (by omega) (by omega)).mono ?_;rintro e w7 ⟨rfl, ms, AE, hsm, AK, KM⟩
  go_wp2_with fail
  go_ret2;refine ⟨.inr ⟨HR, A6, c6, rfl, ?_⟩, ?_⟩
  ·rw [← og Jg.out AE.out hsm.out]; exact AK
  ·have h1 := Bz.bl.trans (Dl.mono Bz.bl.size); exact h1.trans ⟨KM.os, KM.tape, KM.output, KM.size, fun t ht => KM.block t (by have := h1.size; omega) (fun e => by have := (Di.lt t e.symm).1; omega)⟩
theorem ve : ∀ (vs : List Value) (s : Nat) (F : Array Value), s + vs.length ≤ F.size → (Go.Sort.setMany F s vs).toList = F.toList.take s ++ vs ++ F.toList.drop (s + vs.length)
 | [], s, F, _ => by simp [Go.Sort.setMany]
 | v :: r, s, F, h => by
  have h' : s + r.length + 1 ≤ F.size := by simp at h; omega
  rw [Go.Sort.setMany, ve r (s + 1) _ (by simp; omega)];have e1 : (F.setIfInBounds s v).toList = F.toList.set s v := by simp
  have hs : s < F.toList.length := by simp; omega
  rw [e1, show s + (v :: r).length = s + 1 + r.length by simp; omega, List.drop_set_of_lt (by omega)]
  congr 1
  rw [List.take_add_one, List.take_set_of_le lR, List.getElem?_set_self hs];simp
theorem AJ.setCells {t : TypeId} : ∀ (vs : List Value) (o : Nat) {w : World} {cs : Array Value}, AJ w g t cs → AJ (w.setCells g o vs) g t (Go.Sort.setMany cs o vs)
 | [], _, _, _, h => h
 | v :: r, o, w, cs, h => by
  rw [World.setCells, Go.Sort.setMany];exact AJ.setCells r (o + 1) (h.set o v)
theorem vA : ∀ (vs : List Value) (o : Nat) (w : World), w.grownBy (w.setCells g o vs) (some g)
 | [], _, w => yx w _
 | v :: r, o, w => by
  rw [World.setCells];exact zG (show w.grownBy (w.setCell ⟨g, o, none⟩ v) (some g) from ⟨rfl, rfl, rfl, by simp [World.setCell], fun i _ hi => Below.heap_setCell w ⟨g, o, none⟩ v i (fun e => hi (by rw [e]))⟩) (vA r (o + 1) _)
theorem pq (w : World) (ty : TypeId) (b o c : Nat) (hc : ∀ j, j < 3 → (w.cell? ⟨b, o + j, none⟩).isSome = true) (hf : ∀ j, j < 3 → w.frozen? ⟨b, o + j, none⟩ = false) :
 (Builtin.clear_ #[35] ty #[.slice (some ⟨b, o, none⟩) 1 c]).run prog w = .ok (.tuple #[]) (w.setCells b o [.int .i64 0, .int .i64 0, .int .i64 0]) := by
 have ht : prog.underlying 35 = some (.slice 106) := underlying35;have hv : ∀ w, (zeroValue 106).run prog w = .ok (.agg #[.int .i64 0, .int .i64 0, .int .i64 0]) w := zeroValue106
 have Qx : (Builtin.zeroCells (Value.agg #[.int .i64 0, .int .i64 0, .int .i64 0]).cells 1).toList = [.int .i64 0, .int .i64 0, .int .i64 0] := by kernel_rfl
 have hst := run_storeCells_cells (P := prog) b o [.int .i64 0, .int .i64 0, .int .i64 0] 0 w (by simpa using hc) (by simpa using hf) (by intro v hv'; simp at hv'; subst hv'; rfl);simp only [Nat.add_zero] at hst;simp [Builtin.clear_, run_underlying ht, hv, Qx, hst]
theorem mn (d p q d2 p2 q2 : Int) (w : World) : (binOp .eql 106 (.agg #[.int .i64 d, .int .i64 p, .int .i64 q]) (.agg #[.int .i64 d2, .int .i64 p2, .int .i64 q2])).run prog w = .ok (.bool (oH ⟨d, p, q⟩ ⟨d2, p2, q2⟩)) w := by
 have u3 := underlying3;have a3 := isAgg3;have z3 := sizeOf3;have hS : prog.underlying 106 = some (.struct (prog.fieldsOf 106)) := by kernel_rfl
 have hp : prog.stoodInHeld 106 = false := by kernel_rfl
 rw [run_eql_struct, show (10000 : Nat) = 9999 + 1 from rfl, run_equalIn_agg w 9999 106 _ _ hS hp];simp only [Program.fieldsOf, underlying106]
 go_simp
 by_cases h1 : d = d2 <;> by_cases h2 : p = p2 <;> by_cases h3 : q = q2 <;> simp [h1, h2, h3, oH]
def rC (k : Lk) : List Lk → Option Nat
 | [] => none
 | x :: l => if oH k x = true then some 0 else (rC k l).map (· + 1)
def gh : Option Nat → Int
 | some i => i
 | none => -1
theorem nY {k : Lk} : ∀ {ls : List Lk} {i : Nat}, (∀ x ∈ ls.take i, k ≠ x) → ls[i]? = some k → rC k ls = some i
 | [], _, _, h => by simp at h
 | x :: l, 0, _, h => by simp at h; rw [rC, if_pos ((xo _ _).2 h.symm)]
 | x :: l, i + 1, h1, h => by
  rw [rC, if_neg (fun e => h1 x (by simp) ((xo _ _).1 e)), nY (ls := l) (i := i) (fun y hy => h1 y (by simp [hy])) (by simpa using h)]; rfl
theorem pH {k : Lk} : ∀ {ls : List Lk}, (∀ x ∈ ls, k ≠ x) → rC k ls = none
 | [], _ => rfl
 | x :: l, h => by rw [rC, if_neg (fun e => h x (by simp) ((xo _ _).1 e)), pH (fun y hy => h y (by simp [hy]))]; rfl
theorem pI {ds : List Dv} : ∀ {ls : List Lk}, (∀ x ∈ ls, x.dev = d → x.pos = p) → rC ⟨d, p, q⟩ ls = ta d q ls
 | [], _ => rfl
 | x :: l, h => by
  rw [rC, ta, pI (ds := ds) (ls := l) (fun y hy => h y (by simp [hy]))];by_cases hx : x.dev = d ∧ x.key = q
  ·rw [if_pos hx, if_pos ((xo _ _).2 (by have := h x (by simp) hx.1; obtain ⟨a, b, c⟩ := x; simp at hx this ⊢; omega))]
  ·rw [if_neg hx, if_neg (fun e => hx (by rw [← (xo _ _).1 e]; exact ⟨rfl, rfl⟩))]
theorem kD : ∀ {ls : List Lk} {i : Nat}, ta d q ls = some i → i < ls.length
 | [], _, h => by cases h
 | x :: l, i, h => by
  rw [ta] at h;split at h
  ·injection h with h; subst h; simp
  ·rcases hi : ta d q l with _ | j
   ·rw [hi] at h; cases h
   ·rw [hi] at h;injection h with h;have := kD hi;subst h; simp; omega
theorem jN (h : ∀ x ∈ ls, x.dev ≠ d) : ta d q ls = none := by
 induction ls with
 | nil => rfl
 | cons x l ih => rw [ta, if_neg (fun e => h x (by simp) e.1), ih (fun y hy => h y (by simp [hy]))]; rfl
def IxR (w : World) (ls : List Lk) (k : Lk) (n gk : Nat) (_kv iv : Value) (wr : World) : Prop := ∃ i : Nat, iv = .int .i64 i ∧ i ≤ n ∧ gk = n - i ∧ Hid (∀ x ∈ ls.take i, k ≠ x) ∧ Hid (AJ wr w.heap.size 106 #[.int .i64 k.dev, .int .i64 k.pos, .int .i64 k.key]) ∧ Hid (bW w wr)
theorem kC (A : Option Addr) (n c B : Nat) (ls : List Lk) (d p q : Int) (w : World) (hs : Sl w B 3 A n c (ls.flatMap Lk.cells)) (hB : B ≤ w.heap.size) :
 Calls prog 160 #[.slice A n c, .agg #[.int .i64 d, .int .i64 p, .int .i64 q]] w fun e w' => e = .returned (.int .i64 (gh (rC ⟨d, p, q⟩ ls))) ∧ bW w w' := by
 have Cb := iD (hs.len (fun _ => rfl) (by decide)); have HS := iD hs;have hle := hs.le;have CB : Hid (Below w.heap.size w (w.alloc (.cells #[.int .i64 d, .int .i64 p, .int .i64 q] 106))) := (Below.refl _ _).alloc lR _;have Hy : Hid (AJ (w.alloc (.cells #[.int .i64 d, .int .i64 p, .int .i64 q] 106)) w.heap.size 106 #[.int .i64 d, .int .i64 p, .int .i64 q]) := AJ.new _ _ _;clear hs
 go_enter func160, ntmps160
 go_wp2_with fail
 generalize World.alloc _ _ = W at *
 go_loopg [5, 8] n (IxR w ls ⟨d, p, q⟩ n)
 case atStart => exact ⟨0, rfl, Nat.zero_le _, rfl, (fun x hx => by simp at hx), Hy, CB⟩
 case round =>
  clear CB Hy;obtain ⟨i, rfl, hi, rfl, hno, Fy, AU⟩ := hrel;by_cases hlt : i < n
  ·obtain ⟨b, off, d1, p1, q1, rfl, hb, hx, c0, c1, c2⟩ := (HS.below AU hB).lock hlt;have HX := iD hx;have BK : Hid (wr.cell? ⟨w.heap.size, 0, none⟩ = some (.int .i64 d) ∧ wr.cell? ⟨w.heap.size, 1, none⟩ = some (.int .i64 p) ∧ wr.cell? ⟨w.heap.size, 2, none⟩ = some (.int .i64 q) ∧ wr.cell? ⟨b, off + i * 3, none⟩ = some (.int .i64 d1) ∧ wr.cell? ⟨b, off + i * 3 + 1, none⟩ = some (.int .i64 p1) ∧ wr.cell? ⟨b, off + i * 3 + 2, none⟩ = some (.int .i64 q1)) := ⟨Fy.cell 0, Fy.cell 1, Fy.cell 2, c0, c1, c2⟩;have VC := fun W => mn d p q d1 p1 q1 W
   clear hx c0 c1 c2;rcases hee : oH ⟨d, p, q⟩ ⟨d1, p1, q1⟩ with _ | _
   ·rw [hee] at VC
    have HN : Hid (∀ x ∈ ls.take (i + 1), (⟨d, p, q⟩ : Lk) ≠ x) := fun x hx e => by
     rw [zP HX.out] at hx;rcases List.mem_append.1 hx with h | h
     ·exact hno x h e
     ·rw [List.mem_singleton.1 h] at e;rw [(xo _ _).2 e] at hee; cases hee
    clear hee;go_upto_region 4 with (fail);refine fv (fun W' => W'.cell? ⟨w.heap.size, 0, none⟩ = some (.int .i64 d) ∧ W'.cell? ⟨w.heap.size, 1, none⟩ = some (.int .i64 p) ∧ W'.cell? ⟨w.heap.size, 2, none⟩ = some (.int .i64 q) ∧ W'.cell? ⟨b, off + i * 3, none⟩ = some (.int .i64 d1) ∧ W'.cell? ⟨b, off + i * 3 + 1, none⟩ = some (.int .i64 p1) ∧ W'.cell? ⟨b, off + i * 3 + 2, none⟩ = some (.int .i64 q1)) [] ?_ fun AA => ?_
    ·exact BK.out
    try dsimp only at AA
    refine tk 0 11 (mf 6 1) AA ?_;refine tk 1 12 (mf 6 2) AA ?_;refine tk 2 13 (mf 6 3) AA ?_;refine tk 3 14 (mf 6 4) AA ?_;refine tk 4 15 (mf 6 5) AA ?_;refine tk 5 16 (mf 6 6) AA ?_;refine tK ?_;clear AA
    go_wp2_with fail
    go_roundg (n - (i + 1))
    ·exact ⟨i + 1, by go_num, by omega, rfl, HN, Fy, AU.drew⟩
    omega
   ·rw [hee] at VC;have HR : Hid (rC ⟨d, p, q⟩ ls = some i) := nY hno (by rw [(xo _ _).1 hee]; exact HX);clear hee;go_upto_region 4 with (fail);refine fv (fun W' => W'.cell? ⟨w.heap.size, 0, none⟩ = some (.int .i64 d) ∧ W'.cell? ⟨w.heap.size, 1, none⟩ = some (.int .i64 p) ∧ W'.cell? ⟨w.heap.size, 2, none⟩ = some (.int .i64 q) ∧ W'.cell? ⟨b, off + i * 3, none⟩ = some (.int .i64 d1) ∧ W'.cell? ⟨b, off + i * 3 + 1, none⟩ = some (.int .i64 p1) ∧ W'.cell? ⟨b, off + i * 3 + 2, none⟩ = some (.int .i64 q1)) [] ?_ fun AA => ?_
    ·exact BK.out
    try dsimp only at AA
    refine tk 0 11 (mf 6 1) AA ?_;refine tk 1 12 (mf 6 2) AA ?_;refine tk 2 13 (mf 6 3) AA ?_;refine tk 3 14 (mf 6 4) AA ?_;refine tk 4 15 (mf 6 5) AA ?_;refine tk 5 16 (mf 6 6) AA ?_;refine tK ?_;clear AA
    go_wp2_with fail
    go_ret;exact ⟨zC (by rw [HR.out]; rfl), AU.drew⟩
  ·obtain rfl : i = n := by omega
   have Cw : decide (i < i) = false := by simp
   have HR : Hid (rC ⟨d, p, q⟩ ls = none) := by
    have := hno.out;rw [List.take_of_length_le (by rw [Cb.out]; exact Nat.le_refl _)] at this;exact pH this
   go_wp2_with fail
   go_ret;exact ⟨zC (by rw [HR.out]; rfl), AU⟩
theorem oZ {P : Program} {ops : Array Oper} {o : Oper} {a : Act} {K : Act → World → Prop} {Q : Exit → Act → World → Prop} {E : Prop} {d : Option Tmp} (hd : o.dst = d)
 (hg : o.guard = none) (s x : Operand) (t : TypeId) (hop : o.op = Op.call { callee := Callee.builtin Builtin.append, args := #[s, x], argTypes := #[t, t] })
 (e : TypeId) (i : TypeInfo) (size : Nat) (h1 : P.underlying t = some (.slice e)) (h2 : P.info? e = some i) (h4 : i.size = size)
 (b off n cap : Nat) (hs : a.eval s = .slice (some ⟨b, off, none⟩) n cap)
 (ad : Addr) (m c : Nat) (news : List Value) (hx : a.eval x = .slice (some ad) m c) (hn : news.length = m * size) (hc : ∀ j u, news[j]? = some u → w.cell? (ad.add j) = some u) (BR : ∀ u ∈ news, u.oneCell' = true)
 (hroom : n + m ≤ cap) (RF : ∀ j, j < news.length → (w.cell? ⟨b, off + n * size + j, none⟩).isSome = true ∧ w.frozen? ⟨b, off + n * size + j, none⟩ = false)
 (hK : K (a.put d (.slice (some ⟨b, off, none⟩) (n + m) cap)) (w.setCells b (off + n * size) news)) :
 if Region.wanted o (yielded ops a.tmps) = true then Oper.wp P o a w K Q else E := by
 subst hd;exact step_append_room hg s x t hop e i size h1 h2 h4 b off n cap hs ad m c news hx hn hc BR hroom RF hK
theorem kg {l : List Lk} {L : List Value} (h : L.take (n * 3) = l.flatMap Lk.cells) (hl : l.length = n) (hi : i ≤ n) : L.take (i * 3) = (l.take i).flatMap Lk.cells := by
 have h1 : L.take (i * 3) = (L.take (n * 3)).take (i * 3) := by rw [List.take_take, Nat.min_eq_left (Nat.mul_le_mul_right _ hi)]
 rw [h1, h];have e := congrArg (List.flatMap Lk.cells) (List.take_append_drop i l);rw [List.flatMap_append] at e;rw [← e];have hlen : ((l.take i).flatMap Lk.cells).length = i * 3 := by rw [yT (size := 3) (fun _ => rfl), List.length_take, Nat.min_eq_left (by omega)]
 rw [← hlen, List.take_left]
theorem jU (A : Option Addr) (n c base i : Nat) (ls : List Lk) (w : World) (h : zk w base A n c ls) (hi : i < n) (hn : n ≤ 1000000) :
 Calls prog 161 #[.slice A n c, .int .i64 (i : Int), .int .i64 ((i : Int) + 1)] w fun e w' => e = .returned (.slice A (n - 1) c) ∧ Hid (zk w' base A (n - 1) c (ls.eraseIdx i)) ∧ Hid (w.grownBy w' (Value.slice A n c).ownBlock) := by
 obtain ⟨m, rfl⟩ : ∃ m, n = m + 1 := ⟨n - 1, by omega⟩
 have JP : i + (m - i) = m := by omega
 have hl := h.len;have hle := h.sl.le;have Av := iD (h.sl.dropK (k := i + 1) (fun _ => rfl) (by decide) (by omega));obtain ⟨i0, z, Ml, OQ, BF, Fe, Qx⟩ := (yb).ex;rcases h.2 with ⟨_, h1⟩ | ⟨g, cap, cur, hv, hb, hh, Ip, hm, hs, ht⟩
 ·omega
 injection hv with h1 h2 h3;subst h1 h3;obtain ⟨news, GZ⟩ := eX ((ls.drop (i + 1)).flatMap Lk.cells);have hlen : news.length = (m - i) * 3 := by rw [GZ, yT (size := 3) (fun _ => rfl), List.length_drop, hl, show m + 1 - (i + 1) = m - i by omega]
 obtain ⟨ad, had⟩ : ∃ ad, oJ (some (⟨g, 0, none⟩ : Addr)) c (i + 1) 3 = some ad := by unfold oJ; split <;> exact ⟨_, rfl⟩
 have Kl : Hid (∀ W, (Instr.sliceAt 35 (.slice (some ⟨g, 0, none⟩) (m + 1) c) (some (.int .i64 ((i : Int) + 1))) none none).run prog W = .ok (.slice (some ad) (m - i) (c - (i + 1))) W) := fun W => by
  have := uA W (some ⟨g, 0, none⟩) (m + 1) c (i + 1) (by omega);rw [had, show m + 1 - (i + 1) = m - i by omega] at this;rw [← this]; rfl
 have UF : Hid (AJ w g 106 cur) := hh
 have AP : Hid (∀ j u, news[j]? = some u → w.drew.cell? (ad.add j) = some u) := by
  intro j u hu;have hj := (List.getElem?_eq_some_iff.1 hu).1;obtain ⟨b, off, e, _, hc⟩ := Av.2.2.2.2 (by rw [hlen] at hj; omega);rw [had] at e; injection e with e; subst e
  rw [xi]; exact hc j u (by rw [← GZ]; exact hu)
 have AX : Hid (∀ u ∈ news, u.oneCell' = true) := by rw [GZ]; exact yl _
 have Gp : Hid (∀ j, j < news.length → (w.drew.cell? ⟨g, 0 + i * 3 + j, none⟩).isSome = true ∧ w.drew.frozen? ⟨g, 0 + i * 3 + j, none⟩ = false) := by
  intro j hj;refine ⟨?_, UF.frozen _⟩;have := UF.cell (0 + i * 3 + j)
  show (w.cell? _).isSome = true
  rw [this];have : 0 + i * 3 + j < cur.size := by rw [hs]; omega
  rw [Array.getElem?_eq_getElem this]; rfl
 obtain ⟨W1, QM⟩ := eX (w.drew.setCells g (0 + i * 3) news);have BS := iD QM;have Km : Hid (AJ W1 g 106 (Go.Sort.setMany cur (0 + i * 3) news)) := by unfold Hid; rw [QM]; exact AJ.setCells news _ (show AJ w.drew g _ _ from UF)
 have DR : Hid (w.grownBy W1 (some g)) := by unfold Hid; rw [QM]; exact zG (rx (yx w _)) (vA news _ w.drew)
 have Iu : ∀ ty, (Builtin.clear_ #[35] ty #[.slice (some ⟨g, m * 3, none⟩) 1 (c - m)]).run prog W1 = .ok (.tuple #[]) (W1.setCells g (m * 3) [.int .i64 0, .int .i64 0, .int .i64 0]) := fun ty => pq W1 ty g _ _ (fun j hj => by
  have := Km.cell (m * 3 + j);rw [this];have : m * 3 + j < (Go.Sort.setMany cur (0 + i * 3) news).size := by rw [Go.Sort.size_setMany, hs]; omega
  rw [Array.getElem?_eq_getElem this]; rfl) (fun j _ => Km.frozen _)
 have DW : Hid (zk (W1.setCells g (m * 3) [.int .i64 0, .int .i64 0, .int .i64 0]) base (some ⟨g, 0, none⟩) m c (ls.eraseIdx i)) := by
  have AZ := AJ.setCells [.int .i64 0, .int .i64 0, .int .i64 0] (m * 3) Km.out;refine ⟨by rw [yT (size := 3) (fun _ => rfl), List.length_eraseIdx, if_pos (by omega), hl, Nat.add_sub_cancel], .inr ⟨g, c, _, rfl, hb, AZ, by omega, hm, by rw [Go.Sort.size_setMany, Go.Sort.size_setMany, hs], ?_⟩⟩;rw [ve _ _ _ (by rw [Go.Sort.size_setMany, hs]; simp; omega), ve _ _ _ (by rw [hs, hlen]; omega), Nat.zero_add];have e1 : (cur.toList.take (i * 3)).length = i * 3 := by rw [List.length_take, Nat.min_eq_left]; simp [hs]; omega
  have e2 : (cur.toList.take (i * 3) ++ news).length = m * 3 := by rw [List.length_append, e1, hlen]; omega
  have e3 : ((cur.toList.take (i * 3) ++ news ++ cur.toList.drop (i * 3 + news.length)).take (m * 3)) = cur.toList.take (i * 3) ++ news := by rw [← e2, List.take_left]
  rw [e3, List.append_assoc, ← e2, List.take_left, kg ht hl (by omega), GZ, ← List.flatMap_append, List.eraseIdx_eq_take_drop_succ]
 have BZ : Hid (w.grownBy (W1.setCells g (m * 3) [.int .i64 0, .int .i64 0, .int .i64 0]) (some g)) := zG DR (vA _ _ _);have hi0' : prog.info? 106 = some i0 := Ml;have q1 : ((i : Int) == (i : Int) + 1) = false := by simp; omega
 have Bb : IntKind.i64.wrap ((i : Int) + 1) = (i : Int) + 1 := IntWalk.i64_in _ (by omega);have BH : (m + 1 : Nat) ≤ c := Ip;have QH : i ≤ c := by omega
 clear h hh ht hs OQ Fe Qx Av had GZ QM UF Km DR hl hb hm
 go_enter func161, ntmps161
 go_upto_region 5 with (fail);refine fv (fun _ => True) [] ?_ fun AA => ?_
 ·exact trivial
 try dsimp only at AA
 refine tk 0 20 (mf 8 1) AA ?_;refine tk 1 21 (mf 8 2) AA ?_;refine tk 2 22 (mf 8 3) AA ?_;refine tk 3 23 (mf 8 4) AA ?_;refine tk 4 24 (mf 8 5) AA ?_;refine ty 5 25 (mf 8 6) AA (y := by intro w AL; have hcut := Kl.out; go_simp; try with_reducible rfl) (h := ?_);refine tb 6 (mf 8 7) fun K hK => ?_
 (refine oZ (d := some 26) (by rfl) (by rfl) (.tmp 22) (.tmp 25) 35 (by rfl) 106 i0 3 underlying35 hi0' BF g 0 i c (by rfl) ad (m - i) (c - (i + 1)) news (by rfl) hlen AP AX (by omega) Gp ?_; rw [← BS.out, JP])
 refine hK _ _ (fun _ => trivial) fun p => (fun AA => ?_) (p rfl)
 clear p hK K;(try dsimp only at AA);refine tk 7 0 (mf 8 8) AA ?_;refine tK ?_;clear AA
 go_wp2_with fail
 go_ret;exact ⟨rfl, DW, BZ⟩
def qS (w : World) (ns : List Nd) (ds : List Dv) (ls : List Lk) (d q : Int) (e : Ending) (w' : World) : Prop :=
 (zJ ns ds ls ≠ 0 ∧ e = .returned (.tuple #[.slice none 0 0, .int .i64 (zJ ns ds ls)]) ∨ zJ ns ds ls = 0 ∧ ta d q ls = none ∧ e = .returned (.tuple #[.slice none 0 0, .int .i64 15]) ∨
  zJ ns ds ls = 0 ∧ ∃ (i : Nat) (A : Option Addr) (c : Nat), ta d q ls = some i ∧ e = .returned (.tuple #[.slice A (ls.length - 1) c, .int .i64 0]) ∧ Hid (zk w' w.heap.size A (ls.length - 1) c (ls.eraseIdx i))) ∧ Hid (Below w.heap.size w w')
theorem nS (An Ad Al : Option Addr) (nn cn nd cd c Bn Bd Bl : Nat) (ns : List Nd) (ds : List Dv) (ls : List Lk) (d q : Int) (w : World) (IE : Laid w) (hn : Sl w Bn 3 An nn cn (ns.flatMap Nd.cells)) (hd : Sl w Bd 5 Ad nd cd (ds.flatMap Dv.cells)) (hs : Sl w Bl 3 Al ls.length c (ls.flatMap Lk.cells)) (CS : Bn ≤ w.heap.size) (BP : Bd ≤ w.heap.size) (Dn : Bl ≤ w.heap.size)
 (Bg : FP ns) (BU : Fv ds) :
 Calls prog 130 #[.agg #[.slice An nn cn, .slice Ad nd cd], .slice Al ls.length c, .int .i64 d, .int .i64 q] w (qS w ns ds ls d q) := by
 have HS := iD hs;have BG : Hid (qb w #[.slice An nn cn, .slice Ad nd cd] (w.alloc (.cells #[.slice An nn cn, .slice Ad nd cd] 30))) := ⟨AJ.new _ _ _, (Below.refl _ _).alloc lR _⟩;have Cm := iD (uw An Ad Al nn cn nd cd ls.length c Bn Bd Bl ns ds ls (w.alloc (.cells #[.slice An nn cn, .slice Ad nd cd] 30)) (IE.alloc _) (hn.below BG.bl CS) (hd.below BG.bl BP) (hs.below BG.bl Dn) (by simp; omega) (by simp; omega) (by simp; omega) Bg BU);clear hn hd hs Bg BU IE
 go_enter func130, ntmps130
 go_wp2_with fail
 generalize World.alloc _ _ = W at *;refine Cm.mono ?_;rintro e w1 ⟨rfl, AV⟩;have BO := iD (BG.later AV);clear AV BG Cm;by_cases h0 : zJ ns ds ls = 0; rotate_left
 ·have q0 : (zJ ns ds ls != 0) = true := by simpa using h0
  have Ht := iD h0;clear h0
  go_wp2_with fail
  go_ret2;exact ⟨.inl ⟨Ht, rfl⟩, BO.bl⟩
 have HG := iD (yw h0);have HZ := iD h0;rw [h0];clear h0;have ER := BO.bl.size
 go_wp2_with fail
 refine (lH Al ls.length c Bl ls d w1 (HS.below BO.bl Dn) (by omega)).mono ?_;rintro e w2 ⟨rfl, AZ⟩;have DN := iD (BO.later AZ);clear AZ BO ER;have GJ := DN.bl.size;unfold nV;rcases hl : wQ ls d with _ | p
 ·have HN : Hid (ta d q ls = none) := jN (uE.1 hl);clear hl;simp only [Option.getD_none, Option.isSome_none]
  go_wp2_with fail
  refine (kC Al ls.length c Bl ls d 0 q w2 (HS.below DN.bl Dn) (by omega)).mono ?_;rintro e w3 ⟨rfl, BX⟩;have Ew := iD (DN.later BX);clear BX DN;generalize gh _ = r
  go_wp2_with fail
  go_ret2;exact ⟨.inr (.inl ⟨HZ, HN, rfl⟩), Ew.bl⟩
 ·have HI : Hid (rC ⟨d, p, q⟩ ls = ta d q ls) := pI (ds := ds) fun x hx DI => by
   have := fx HG hx;rw [DI, hl] at this;injection this with this;exact this.symm
  clear hl;simp only [Option.getD_some, Option.isSome_some]
  go_wp2_with fail
  refine (kC Al ls.length c Bl ls d p q w2 (HS.below DN.bl Dn) (by omega)).mono ?_;rintro e w3 ⟨rfl, BX⟩;have Ew := iD (DN.later BX);clear BX DN GJ;rw [HI.out];rcases hi : ta d q ls with _ | i
  ·have HN := iD hi;clear hi;simp only [gh]
   go_wp2_with fail
   go_ret2;exact ⟨.inr (.inl ⟨HZ, HN, rfl⟩), Ew.bl⟩
  ·have BQ := kD hi;have HN := iD hi;have JN := Ew.bl.size;have Ec := HG.1;clear hi;simp only [gh];have qi : decide ((i : Int) < 0) = false := by simp
   go_wp2_with fail
   refine (vI Al ls.length c Bl ls w3 (HS.below Ew.bl Dn) (by omega) (by omega)).mono ?_;rintro e w4 ⟨A4, c4, rfl, EA, Be⟩;have BC : Hid (zk w4 w.heap.size A4 ls.length c4 ls) := World.ownsRow.mono EA (by omega);have Bz := iD (Ew.later Be);clear EA Be Ew
   go_wp2_with fail
   refine (jU A4 ls.length c4 w.heap.size i ls w4 BC BQ (by omega)).mono ?_;rintro e w5 ⟨rfl, ET, GL⟩
   go_wp2_with fail
   go_ret2;refine ⟨.inr (.inr ⟨HZ, i, A4, c4, HN, rfl, ET⟩), ?_⟩;have h1 := Bz.bl;exact h1.trans ⟨GL.os, GL.tape, GL.output, GL.size, fun t ht => GL.block t (by have := h1.size; omega) (fun e => by have := (BC.lt t e.symm).1; omega)⟩
end Go.Proofs.YtkkobemhbicjgaaGreatDoor
