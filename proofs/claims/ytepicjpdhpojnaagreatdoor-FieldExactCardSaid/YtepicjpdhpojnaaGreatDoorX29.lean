import Derived.Test.YtepicjpdhpojnaaGreatDoorX28
set_option maxRecDepth 100000
set_option maxHeartbeats 4000000
namespace Go.Proofs.YtepicjpdhpojnaaGreatDoor
section
open Go.RowKit
def SlX (w : World) (g size : Nat) (A : Option Addr) (n c : Nat) (xs : List Value) : Prop := Sl w w.heap.size size A n c xs ∧ ∀ b off, A = some ⟨b, off, none⟩ → b ≠ g
section
variable {w w' : World} {g size n c base : Nat} {A : Option Addr} {xs : List Value}
theorem SlX.grown (h : SlX w g size A n c xs) (hg : w.grownBy w' (some g)) : SlX w' g size A n c xs := by
 obtain ⟨⟨h1, h2, h3, h4, h5⟩, h6⟩ := h
 refine ⟨⟨h1, h2, h3, h4, fun hn => ?_⟩, h6⟩
 obtain ⟨b, off, e, hb, hc⟩ := h5 hn
 refine ⟨b, off, e, Nat.lt_of_lt_of_le hb hg.size, fun j u hu => ?_⟩
 exact (World.cell?_of_block (hg.block b hb (fun e' => h6 b off e (by injection e')))).trans (hc j u hu)
theorem SlX.below (h : SlX w g size A n c xs) (hb : Below w.heap.size w w') : SlX w' g size A n c xs := ⟨(h.1.below hb lR).more hb.size, h.2⟩
theorem SlX.alloc (h : SlX w g size A n c xs) (o : Obj) : SlX (w.alloc o) g size A n c xs := h.below ((Below.refl _ _).alloc lR _)
theorem SlX.of_own {e : TypeId} (h : w.ownsRow base e size (.slice A n c) n xs) (hb : g < base) : SlX w g size A n c xs :=
 ⟨Sl.of_own h, fun b off e => by have := (h.lt b (by rw [e]; rfl)).1; omega⟩
end
end
section
open Go.RowKit
theorem rz {w w1 w2 : World} {row : Option Nat} (h : w.grownBy w1 row) (hb : Below w.heap.size w1 w2) : w.grownBy w2 row :=
 ⟨hb.os.trans h.os, hb.tape.trans h.tape, hb.output.trans h.output, Nat.le_trans h.size hb.size, fun i hi hne => (hb.block i hi).trans (h.block i hi hne)⟩
end
section
open Go.RowKit
def jj (w : World) (g below : Nat) (e : Ending) (w' : World) : Prop := ∃ (A : Option Addr) (k c : Nat) (l : List Int), e = .returned (.slice A k c) ∧ Hid (zU w' g) ∧ Hid (w.grownBy w' (some g)) ∧ Hid (zQ w' w.heap.size A k c l) ∧ Hid (k ≤ below ∧ ye below (-1) l = true)
def iZ (w : World) (g below gk : Nat) (ov iv : Value) (wr : World) : Prop := ∃ (i m co : Nat) (Ao : Option Addr) (out : List Int), iv = .int .i64 i ∧ ov = .slice Ao m co ∧ i ≤ below ∧ gk = below - i ∧ m ≤ i ∧ Hid (zQ wr w.heap.size Ao m co out) ∧ Hid (zU wr g) ∧ Hid (w.grownBy wr (some g)) ∧ Hid (ye below (-1) out = true ∧ xr (-1) out < i)
theorem mD (g below most : Nat) (w : World) (hd : zU w g) (hb : below ≤ 1000) (hm : most ≤ 1000) :
 Calls Tryz.prog 36 #[.pointer (some ⟨g, 0, none⟩), .int .i64 (below : Int), .int .i64 (most : Int)] w (jj w g below) := by
 have hlt := hd.lt
 have HD0 := iD hd
 clear hd
 go_enter Tryz.func36, Tryz.ntmps36
 go_wp2_with fail
 go_loopg [7, 8] below (iZ w g below)
 case atStart => exact ⟨0, 0, 0, none, [], rfl, rfl, Nat.zero_le _, rfl, Nat.le_refl _, World.ownsRow_nil _ _ _ _, HD0, y9 _ _, ⟨rfl, by show (-1 : Int) < 0; omega⟩⟩
 case round =>
  obtain ⟨i, m, co, Ao, out, rfl, rfl, hi, rfl, hmi, hO, hD, hG, hR⟩ := hrel
  by_cases hgo : i < below ∧ m < most
  ·obtain ⟨hl1, hl2⟩ := hgo
   go_wp2_with fail
   refine (tu g 3 wr hD.out (by decide)).mono ?_
   rintro e w3 ⟨r, rfl, hd3, hg3, hs3⟩
   have HO3 := iD (hO.out.kept hg3.out (zf fun b e => by have := (hO.out.lt b e).1; omega))
   have HG3 := iD (zO hG.out hg3.out)
   have hz3 := HG3.out.size
   clear hD hG hg3 hs3 hO
   rcases r with _ | _
   ·go_wp2_with fail
    go_roundg (below - (i + 1))
    case rel => exact ⟨i + 1, m, co, Ao, out, by go_num, rfl, by omega, rfl, by omega, HO3, hd3, HG3, ⟨hR.out.1, by have := hR.out.2; omega⟩⟩
    case measure => omega
   ·have HR1 : Hid (ye below (-1) (out ++ [(i : Int)]) = true ∧ xr (-1) (out ++ [(i : Int)]) < ((i + 1 : Nat) : Int)) := by
     obtain ⟨h1, h2⟩ := hR.out
     refine ⟨?_, by rw [uE]; omega⟩
     rw [ve, h1]
     have h3 : ((i : Nat) : Int) < (below : Nat) := by omega
     simp [h2, h3]
    go_wp2_with (at_builtin; go_must (refine zW rfl (.tmp 22) (.tmp 24) rfl yX (by rfl) (HO3.out.alloc _) (by rfl) (Sl.newest (n := 1) (by simp) (by rfl) (by decide)) (by simp [Value.oneCell']) (by omega) (by omega) (by simp; omega) ?_; intro A' cap' w4 hown4 hgr4 hat4; have HO4 := iD hown4; have HG4 := iD hgr4; clear hown4 hgr4 hat4))
    have HB4 : Hid (Below w.heap.size w3 w4) := ((Below.refl _ _).alloc (by omega) _).trans ⟨HG4.out.os, HG4.out.tape, HG4.out.output, HG4.out.size, fun q hq => HG4.out.block q (by simp; omega) (fun e => by have := (HO3.out.lt q e.symm).1; omega)⟩
    have HD4 := iD (hd3.out.below HB4.out (by omega))
    have HG5 : Hid (w.grownBy w4 (some g)) := rz HG3.out HB4.out
    go_roundg (below - (i + 1))
    case rel =>
     refine ⟨i + 1, m + 1, cap', A', out ++ [(i : Int)], by go_num, rfl, by omega, rfl, by omega, ?_, HD4, HG5, HR1⟩
     have := HO4.out
     unfold Hid zQ
     rw [zw]
     exact this
    case measure => omega
  ·have HEND : Hid (jj w g below (.returned (.slice Ao m co)) wr) := ⟨Ao, m, co, out, rfl, hD, hG, hO, by omega, hR.out.1⟩
   by_cases hl : i < below
   ·have ql : decide ((m : Int) < (most : Int)) = false := by simp; omega
    have ql2 : decide (m < most) = false := by simp; omega
    go_wp2_with fail
    go_ret
    exact HEND.out
   ·have ql : decide ((i : Int) < (below : Int)) = false := by simp; omega
    have ql2 : decide (i < below) = false := by simp; omega
    go_wp2_with fail
    go_ret
    exact HEND.out
def ky (w : World) (g nn : Nat) (e : Ending) (w' : World) : Prop := ∃ (A : Option Addr) (k c : Nat) (l : List Int), e = .returned (.slice A k c) ∧ Hid (zU w' g) ∧ Hid (w.grownBy w' (some g)) ∧ Hid (zQ w' w.heap.size A k c l) ∧ Hid (0 < k ∧ k ≤ nn ∧ ye nn (-1) l = true)
theorem mC (g : Nat) (An Ad : Option Addr) (nn cn nd cd : Nat) (w : World) (hd : zU w g) (h0 : 0 < nn) (hn : nn ≤ 1000) :
 Calls Tryz.prog 11 #[.pointer (some ⟨g, 0, none⟩), .agg #[.slice An nn cn, .slice Ad nd cd]] w (ky w g nn) := by
 have hlt := hd.lt
 have HD0 := iD (hd.alloc (.cells #[.slice An nn cn, .slice Ad nd cd] 30))
 have HB0 : Hid (Below w.heap.size w (w.alloc (.cells #[.slice An nn cn, .slice Ad nd cd] 30))) := (Below.refl _ _).alloc lR _
 have HK0 := iD (Blk.new w 30 #[.slice An nn cn, .slice Ad nd cd])
 clear hd
 have q0 : ((nn : Int) == 0) = false := by simp; omega
 have q1 : (nn == 0) = false := by simp; omega
 go_enter Tryz.func11, Tryz.ntmps11
 go_upto_region 3 with (fail)
 clear q0 q1
 generalize World.alloc _ _ = W at *
 have hz0 := HB0.out.size
 have k0 : W.cell? ⟨w.heap.size, 0, none⟩ = some (.slice An nn cn) := HK0.out.cell 0
 go_wp2_with fail
 clear k0
 refine (mD g nn 2 W HD0.out hn (by decide)).mono ?_
 rintro e w1 ⟨A, k, c, l, rfl, hd1, hg1, hO1, hr⟩
 have HG1 := iD (zO (zN HB0.out (some g)) hg1.out)
 have HK1 := iD (HK0.out.grown hg1.out (by simp; omega))
 have hz1 := hg1.out.size
 clear hg1 HB0 HK0 HD0
 by_cases hk : k = 0
 ·subst hk
  have k0 : w1.cell? ⟨w.heap.size, 0, none⟩ = some (.slice An nn cn) := HK1.out.cell 0
  go_wp2_with fail
  clear k0
  refine (zT g nn w1 hd1.out (by omega)).mono ?_
  rintro e w2 ⟨r, rfl, hr0, hrp, hrn, hd2, hg2, hs2⟩
  have HG2 := iD (zO HG1.out hg2.out)
  go_wp2_with fail
  go_ret
  have hz2 := HG2.out.size
  have HBn : Hid (Below w2.heap.size w2 (w2.alloc (.cells #[.int .i64 r] 3))) := (Below.refl _ _).alloc lR _
  refine ⟨_, 1, 1, [r], rfl, hd2.out.alloc _, rz HG2.out (HBn.out.mono hz2), tq (n := 1) (xs := [.int .i64 r]) hz2 (by decide) rfl, by decide, by omega, ?_⟩
  have h1 := hrn.out (by omega)
  simp [ye]
  omega
 ·have q2 : ((k : Int) == 0) = false := by simp; omega
  have q3 : (k == 0) = false := by simp; omega
  go_wp2_with fail
  go_ret
  exact ⟨A, k, c, l, rfl, hd1, HG1, hO1.out.mono hz0, by omega, hr.out⟩
end
section
open Go.RowKit
theorem r6 (p : Int) (w : World) : Calls Tryz.prog 104 #[.int .i64 p] w fun e w' => e = .returned (.bool (yv p)) ∧ w = w' := by
 by_cases h1 : p = 1
 ·subst h1
  go_enter Tryz.func104, Tryz.ntmps104
  go_wp2_with fail
  go_ret
  exact ⟨rfl, rfl⟩
 ·have q1 : (p == 1) = false := by simpa using h1
  have HP : Hid (yv p = (p == 2)) := by unfold Hid; rw [Bool.eq_iff_iff]; simp [yv, h1]
  clear h1
  go_enter Tryz.func104, Tryz.ntmps104
  go_wp2_with fail
  go_ret
  exact ⟨by rw [HP.out]; rfl, rfl⟩
theorem wV (p : Int) (w : World) : Calls Tryz.prog 38 #[.int .i64 p] w fun e w' => e = .returned (.bool (yv p)) ∧ w = w' := by
 by_cases h1 : p = 1
 ·subst h1
  go_enter Tryz.func38, Tryz.ntmps38
  go_wp2_with fail
  go_ret
  exact ⟨rfl, rfl⟩
 ·have q1 : (p == 1) = false := by simpa using h1
  have HP : Hid (yv p = (p == 2)) := by unfold Hid; rw [Bool.eq_iff_iff]; simp [yv, h1]
  clear h1
  go_enter Tryz.func38, Tryz.ntmps38
  go_wp2_with fail
  go_ret
  exact ⟨by rw [HP.out]; rfl, rfl⟩
def scV (An : Option Addr) (nn cn : Nat) (Ad : Option Addr) (nd cd : Nat) (As : Option Addr) (n c : Nat) (Al : Option Addr) (nl cl : Nat) (At : Option Addr) (nt ct : Nat) (k d p q : Int) (lk sk : Bool) : Array Value :=
 #[.slice An nn cn, .slice Ad nd cd, .slice As n c, .slice Al nl cl, .slice At nt ct, .int .i64 k, .int .i64 d, .int .i64 p, .int .i64 q, .bool lk, .bool sk]
def SlP (w : World) (B sb size : Nat) (A : Option Addr) (n c : Nat) (xs : List Value) : Prop := Sl w w.heap.size size A n c xs ∧ ∀ x i u, B ≤ x → x < sb → Sl (w.setCell ⟨x, i, none⟩ u) w.heap.size size A n c xs
theorem SlP.of_sl {w : World} {B sb size n c : Nat} {A : Option Addr} {xs : List Value} (h : Sl w B size A n c xs) (hB : B ≤ w.heap.size) : SlP w B sb size A n c xs := ⟨h.more hB, fun x i u hx _ => (h.setCell (p := ⟨x, i, none⟩) hx u).more hB⟩
theorem SlP.of_new {w : World} {B sb size n c : Nat} {A : Option Addr} {xs : List Value} (h : Sl w w.heap.size size A n c xs) (hA : ∀ b off, A = some ⟨b, off, none⟩ → sb ≤ b) : SlP w B sb size A n c xs := ⟨h, fun x i u _ hx => by
 obtain ⟨g1, g2, g3, g4, g5⟩ := h
 refine ⟨g1, g2, g3, g4, fun hn => ?_⟩
 obtain ⟨b, off, e, hbb, hc⟩ := g5 hn
 refine ⟨b, off, e, hbb, fun j v hv => ?_⟩
 exact (World.cell?_of_block (Below.heap_setCell w ⟨x, i, none⟩ _ b (by have := hA b off e; simp; omega))).trans (hc j v hv)⟩
theorem SlP.drew {w : World} {B sb size n c : Nat} {A : Option Addr} {xs : List Value} (h : SlP w B sb size A n c xs) : SlP w.drew B sb size A n c xs := ⟨h.1, fun x i u h1 h2 => h.2 x i u h1 h2⟩
theorem SlP.drewN {w : World} {B sb size n c : Nat} {A : Option Addr} {xs : List Value} (h : SlP w B sb size A n c xs) (m : Nat) : SlP (w.drewN m) B sb size A n c xs := ⟨h.1, fun x i u h1 h2 => h.2 x i u h1 h2⟩
def uh (w : World) (B sb : Nat) (An : Option Addr) (nn cn : Nat) (Ad : Option Addr) (nd cd : Nat) (k d p q : Int) (lk sk : Bool) (F' : Fd) (w' : World) : Prop :=
 Hid (w.grownBy w' (some sb)) ∧ ∃ (As : Option Addr) (n c : Nat) (Al : Option Addr) (nl cl : Nat) (At : Option Addr) (nt ct : Nat), Hid (Blk w' sb 90 (scV An nn cn Ad nd cd As n c Al nl cl At nt ct k d p q lk sk)) ∧ Hid (SlP w' B sb 1 As n c (zK F'.s)) ∧ Hid (SlP w' B sb 3 Al nl cl (F'.ls.flatMap Lk.cells)) ∧ Hid (SlP w' B sb 1 At nt ct (zK F'.st)) ∧ Hid (n ≤ 1000000 ∧ nl ≤ 1000000 ∧ nt ≤ 1000000)
def mvF (F : Fd) (d : Nat) (p : Int) (b : Bool) : Fd := if b = true then F else ⟨F.s.set d p, F.ls, F.st⟩
def oV (kd p : Int) (lk : Bool) : Int := if kd = 5 then 6 else if yv p = false then 10 else if lk = true then 18 else 0
def oI (kd p : Int) : Int := if kd = 6 then (if yv p = true then 0 else 10) else 6
structure vt (w : World) (B sb : Nat) (An : Option Addr) (nn cn : Nat) (ns : List Nd) (Ad : Option Addr) (nd cd : Nat) (ds : List Dv) (As : Option Addr) (n c : Nat) (Al : Option Addr) (nl cl : Nat) (At : Option Addr) (nt ct : Nat) (F : Fd) (k d p q : Int) (lk sk : Bool) : Prop where
 b : Blk w sb 90 (scV An nn cn Ad nd cd As n c Al nl cl At nt ct k d p q lk sk)
 hn : Sl w B 3 An nn cn (ns.flatMap Nd.cells)
 hd : Sl w B 5 Ad nd cd (ds.flatMap Dv.cells)
 hs : Sl w B 1 As n c (zK F.s)
 hl : Sl w B 3 Al nl cl (F.ls.flatMap Lk.cells)
 ht : Sl w B 1 At nt ct (zK F.st)
 bB : B ≤ sb
 la : Laid w
 sn : ∀ x ∈ ns, x.name.size ≤ 9223372036854775807
 sd : ∀ x ∈ ds, x.name.size ≤ 9223372036854775807
 bn : n ≤ 1000000 ∧ nl ≤ 999999 ∧ nt ≤ 999999
section
variable {w w' : World} {B sb nn cn nd cd n c nl cl nt ct : Nat} {An Ad As Al At : Option Addr} {ns : List Nd} {ds : List Dv} {F : Fd} {k d p q : Int} {lk sk : Bool}
theorem vt.later (h : vt w B sb An nn cn ns Ad nd cd ds As n c Al nl cl At nt ct F k d p q lk sk) (hb : Below w.heap.size w w') : vt w' B sb An nn cn ns Ad nd cd ds As n c Al nl cl At nt ct F k d p q lk sk :=
 have hl := Nat.lt_of_le_of_lt h.bB h.b.lt
 ⟨h.b.below hb h.b.lt, h.hn.below hb (by omega), h.hd.below hb (by omega), h.hs.below hb (by omega), h.hl.below hb (by omega), h.ht.below hb (by omega), h.bB, h.la.below hb lR, h.sn, h.sd, h.bn⟩
theorem vt.le (h : vt w B sb An nn cn ns Ad nd cd ds As n c Al nl cl At nt ct F k d p q lk sk) : B ≤ w.heap.size := Nat.le_of_lt (Nat.lt_of_le_of_lt h.bB h.b.lt)
theorem vt.same (h : vt w B sb An nn cn ns Ad nd cd ds As n c Al nl cl At nt ct F k d p q lk sk) : uh w B sb An nn cn Ad nd cd k d p q lk sk F w :=
 ⟨y9 _ _, As, n, c, Al, nl, cl, At, nt, ct, h.b, .of_sl h.hs h.le, .of_sl h.hl h.le, .of_sl h.ht h.le, by have := h.bn; exact ⟨by omega, by omega, by omega⟩⟩
theorem uh.drew {F' : Fd} (h : uh w B sb An nn cn Ad nd cd k d p q lk sk F' w') : uh w B sb An nn cn Ad nd cd k d p q lk sk F' w'.drew := by
 obtain ⟨hg, As, n, c, Al, nl, cl, At, nt, ct, hb, h1, h2, h3, h4⟩ := h
 exact ⟨tX hg.out, As, n, c, Al, nl, cl, At, nt, ct, hb, h1.out.drew, h2.out.drew, h3.out.drew, h4⟩
theorem uh.drewN {F' : Fd} (h : uh w B sb An nn cn Ad nd cd k d p q lk sk F' w') (m : Nat) : uh w B sb An nn cn Ad nd cd k d p q lk sk F' (w'.drewN m) := by
 obtain ⟨hg, As, n, c, Al, nl, cl, At, nt, ct, hb, h1, h2, h3, h4⟩ := h
 exact ⟨o5 hg.out m, As, n, c, Al, nl, cl, At, nt, ct, hb, h1.out.drewN m, h2.out.drewN m, h3.out.drewN m, h4⟩
end
theorem rp (B sb : Nat) (An Ad As Al At : Option Addr) (nn cn nd cd n c nl cl nt ct : Nat) (ns : List Nd) (ds : List Dv) (F : Fd) (k p q p' : Int) (d : Nat) (lk sk : Bool) (w : World) (h : vt w B sb An nn cn ns Ad nd cd ds As n c Al nl cl At nt ct F k d p q lk sk) (hdn : d < n) (hn : n ≤ 1000000) :
 Calls Tryz.prog 75 #[.pointer (some ⟨sb, 0, none⟩), .int .i64 p'] w fun e w' => e = .returned (.tuple #[]) ∧ uh w B sb An nn cn Ad nd cd k d p q lk sk (mvF F d p' (lk || sk)) w' := by
 have HH := iD h
 have hb := h.b
 unfold scV at hb
 have a2 : w.cell? ⟨sb, 2, none⟩ = some (.slice As n c) := hb.cell 2
 have a9 : w.cell? ⟨sb, 9, none⟩ = some (.bool lk) := hb.cell 9
 have a10 : w.cell? ⟨sb, 10, none⟩ = some (.bool sk) := hb.cell 10
 clear hb h
 rcases lk with _ | _; rotate_left
 ·go_enter Tryz.func75, Tryz.ntmps75
  go_wp2_with fail
  refine bodyPost_ret (results_none rfl _ _ _) rfl ?_
  exact ⟨rfl, HH.out.same⟩
 rcases sk with _ | _; rotate_left
 ·go_enter Tryz.func75, Tryz.ntmps75
  go_wp2_with fail
  refine bodyPost_ret (results_none rfl _ _ _) rfl ?_
  exact ⟨rfl, HH.out.same⟩
 go_enter Tryz.func75, Tryz.ntmps75
 go_wp2_with fail
 refine (x9 As n c B F.s w HH.out.hs HH.out.le hn).mono ?_
 rintro e w1 ⟨A', c', rfl, hO, hb1⟩
 have hln : F.s.length = n := HH.out.hs.len (fun _ => rfl) (by decide)
 rw [hln] at hO ⊢
 have HLN := iD hln
 have hsl := HH.out.b.lt
 have HS1 := iD (HH.out.later hb1.out)
 have HO1 : Hid (zQ (w1.setCell ⟨sb, 2, none⟩ (.slice A' n c')) w.heap.size A' n c' F.s) := (hO.out.kept (zY w1 ⟨sb, 2, none⟩ (.slice A' n c')) (zf fun b e => by have := (hO.out.lt b e).1; simp; omega))
 have HB1 := iD (HS1.out.b.set 2 (.slice A' n c'))
 have HG1 : Hid (w.grownBy (w1.setCell ⟨sb, 2, none⟩ (.slice A' n c')) (some sb)) := zO (zN hb1.out _) (zY _ _ _)
 have b2 : w1.cell? ⟨sb, 2, none⟩ = some (.slice As n c) := by have := HS1.out.b; unfold scV at this; exact this.cell 2
 have z2 := HS1.out.b.frozen 2
 have HL1 : Hid (Sl (w1.setCell ⟨sb, 2, none⟩ (.slice A' n c')) B 3 Al nl cl (F.ls.flatMap Lk.cells)) := HS1.out.hl.setCell HH.out.bB _
 have HT1 : Hid (Sl (w1.setCell ⟨sb, 2, none⟩ (.slice A' n c')) B 1 At nt ct (zK F.st)) := HS1.out.ht.setCell HH.out.bB _
 clear hO hln hb1 a2 a9 a10
 go_upto_region 2 with (fail)
 clear b2 z2
 generalize World.setCell w1 _ _ = w2 at *
 obtain ⟨tg, y, rfl, htg, htl, hy, hcy, hfy, hst⟩ := HO1.out.at hdn
 have k2 : w2.cell? ⟨sb, 2, none⟩ = some (.slice (some ⟨tg, 0, none⟩) n c') := by have := HB1.out; unfold scV at this; exact this.cell 2
 have k6 : w2.cell? ⟨sb, 6, none⟩ = some (.int .i64 (d : Int)) := by have := HB1.out; unfold scV at this; exact this.cell 6
 have HO2 := iD (hst p')
 clear hst hy
 refine zJ (S := fun W' => W'.cell? ⟨sb, 2, none⟩ = some (.slice (some ⟨tg, 0, none⟩) n c') ∧ W'.cell? ⟨sb, 6, none⟩ = some (.int .i64 (d : Int))) (J := [12]) (by kernel_rfl) ?_ (fun AA => ?_)
 ·exact ⟨k2, k6⟩
 try dsimp only at AA
 refine tk 0 24 (mf 13 1) AA ?_
 refine tk 1 25 (mf 13 2) AA ?_
 refine tk 2 26 (mf 13 3) AA ?_
 refine tk 3 27 (mf 13 4) AA ?_
 refine tk 4 28 (mf 13 5) AA ?_
 refine tk 5 29 (mf 13 6) AA ?_
 refine tk 6 30 (mf 13 7) AA ?_
 refine tk 7 31 (mf 13 8) AA ?_
 refine tk 8 32 (mf 13 9) AA ?_
 refine tk 9 33 (mf 13 10) AA ?_
 refine tk 10 34 (mf 13 11) AA ?_
 refine tk 11 35 (mf 13 12) AA ?_
 refine zG (k := 12) (mf 13 13) (by kernel_rfl) (by kernel_rfl) rfl (fun K hK => ?_)
 go_simp
 refine hK.out _ _ (fun h => by cases h) (fun _ => ?_)
 try clear AA
 clear hK K
 refine zH (by kernel_rfl) ?_ _
 go_wp2_with fail
 have HF : uh w B sb An nn cn Ad nd cd k d p q false false ⟨F.s.set d p', F.ls, F.st⟩ (w2.setCell ⟨tg, d, none⟩ (.int .i64 p')) := by
  refine ⟨zg HG1.out (by simp; omega) _, some ⟨tg, 0, none⟩, n, c', Al, nl, cl, At, nt, ct, ?_, .of_new HO2.out.sl (fun b off e => by injection e with e; injection e with e; omega), ?_, ?_, by have := HH.out.bn; exact ⟨by omega, by omega, by omega⟩⟩
  ·have := HB1.out.far (p := ⟨tg, d, none⟩) (by simp; omega) (.int .i64 p')
   unfold scV at this ⊢
   exact this
  ·have := HH.out.bB
   exact .of_sl (HL1.out.setCell (p := ⟨tg, d, none⟩) (by simp; omega) _) (by have := HB1.out.lt; simp; omega)
  ·have := HH.out.bB
   exact .of_sl (HT1.out.setCell (p := ⟨tg, d, none⟩) (by simp; omega) _) (by have := HB1.out.lt; simp; omega)
 go_end0
 exact ⟨rfl, HF.drew⟩
theorem oU (B sb : Nat) (An Ad As Al At : Option Addr) (nn cn nd cd n c nl cl nt ct : Nat) (ns : List Nd) (ds : List Dv) (F : Fd) (k p q kd : Int) (d : Nat) (lk sk : Bool) (w : World) (h : vt w B sb An nn cn ns Ad nd cd ds As n c Al nl cl At nt ct F k d p q lk sk) (hdn : d < n) (hn : n ≤ 1000000) :
 Calls Tryz.prog 74 #[.pointer (some ⟨sb, 0, none⟩), .int .i64 kd] w fun e w' => e = .returned (.int .i64 (oV kd p lk)) ∧ uh w B sb An nn cn Ad nd cd k d p q lk sk (mvF F d p (decide (oV kd p lk ≠ 0) || (lk || sk))) w' := by
 have HMV := iD (rp B sb An Ad As Al At nn cn nd cd n c nl cl nt ct ns ds F k p q p d lk sk w h hdn hn)
 have HH := iD h
 have hb := h.b
 unfold scV at hb
 have a7 : w.cell? ⟨sb, 7, none⟩ = some (.int .i64 p) := hb.cell 7
 have a9 : w.cell? ⟨sb, 9, none⟩ = some (.bool lk) := hb.cell 9
 have HP := iD (r6 p w)
 clear hb h
 obtain ⟨E, hE⟩ : ∃ E, E = oV kd p lk := ⟨_, rfl⟩
 rw [← hE]
 unfold oV at hE
 by_cases h5 : kd = 5
 ·have q5 : (kd == 5) = true := by simpa using h5
  rw [if_pos h5] at hE
  subst hE
  clear h5
  go_enter Tryz.func74, Tryz.ntmps74
  go_wp2_with fail
  go_ret
  exact ⟨rfl, HH.out.same⟩
 have q5 : (kd == 5) = false := by simpa using h5
 rw [if_neg h5] at hE
 clear h5
 rcases hp : yv p with _ | _
 ·rw [hp] at HP
  rw [if_pos hp] at hE
  subst hE
  clear hp
  go_enter Tryz.func74, Tryz.ntmps74
  go_wp2_with fail
  refine HP.out.mono ?_
  rintro e w1 ⟨rfl, rfl⟩
  go_wp2_with fail
  go_ret
  exact ⟨rfl, HH.out.same⟩
 ·rw [hp] at HP
  rw [if_neg (by simp [hp])] at hE
  clear hp
  rcases lk with _ | _; rotate_left
  ·rw [if_pos rfl] at hE
   subst hE
   go_enter Tryz.func74, Tryz.ntmps74
   go_wp2_with fail
   refine HP.out.mono ?_
   rintro e w1 ⟨rfl, rfl⟩
   go_wp2_with fail
   go_ret
   exact ⟨rfl, HH.out.same⟩
  ·rw [if_neg (by simp)] at hE
   subst hE
   go_enter Tryz.func74, Tryz.ntmps74
   go_wp2_with fail
   refine HP.out.mono ?_
   rintro e w1 ⟨rfl, rfl⟩
   go_wp2_with fail
   refine HMV.out.mono ?_
   rintro e w1 ⟨rfl, hT⟩
   have HT := iD hT
   clear hT HMV
   go_wp2_with fail
   go_ret
   exact ⟨rfl, HT.out⟩
theorem jO (B sb : Nat) (An Ad As Al At : Option Addr) (nn cn nd cd n c nl cl nt ct : Nat) (ns : List Nd) (ds : List Dv) (F : Fd) (k p q kd : Int) (d : Nat) (lk sk : Bool) (w : World) (h : vt w B sb An nn cn ns Ad nd cd ds As n c Al nl cl At nt ct F k d p q lk sk) (hdn : d < n) (hn : n ≤ 1000000) :
 Calls Tryz.prog 76 #[.pointer (some ⟨sb, 0, none⟩), .int .i64 kd] w fun e w' => e = .returned (.int .i64 (oI kd p)) ∧ uh w B sb An nn cn Ad nd cd k d p q lk sk (mvF F d p (decide (oI kd p ≠ 0) || (lk || sk))) w' := by
 have HMV := iD (rp B sb An Ad As Al At nn cn nd cd n c nl cl nt ct ns ds F k p q p d lk sk w h hdn hn)
 have HH := iD h
 have hb := h.b
 unfold scV at hb
 have a7 : w.cell? ⟨sb, 7, none⟩ = some (.int .i64 p) := hb.cell 7
 have HP := iD (r6 p w)
 clear hb h
 obtain ⟨E, hE⟩ : ∃ E, E = oI kd p := ⟨_, rfl⟩
 rw [← hE]
 unfold oI at hE
 by_cases h6 : kd = 6; rotate_left
 ·have q6 : (kd != 6) = true := by simpa using h6
  rw [if_neg h6] at hE
  subst hE
  clear h6
  go_enter Tryz.func76, Tryz.ntmps76
  go_wp2_with fail
  go_ret
  exact ⟨rfl, HH.out.same⟩
 rw [if_pos h6] at hE
 subst h6
 rcases hp : yv p with _ | _
 ·rw [hp] at HP
  rw [if_neg (by simp [hp])] at hE
  subst hE
  clear hp
  go_enter Tryz.func76, Tryz.ntmps76
  go_wp2_with fail
  refine HP.out.mono ?_
  rintro e w1 ⟨rfl, rfl⟩
  go_wp2_with fail
  go_ret
  exact ⟨rfl, HH.out.same⟩
 ·rw [hp] at HP
  rw [if_pos hp] at hE
  subst hE
  clear hp
  go_enter Tryz.func76, Tryz.ntmps76
  go_wp2_with fail
  refine HP.out.mono ?_
  rintro e w1 ⟨rfl, rfl⟩
  go_wp2_with fail
  refine HMV.out.mono ?_
  rintro e w1 ⟨rfl, hT⟩
  have HT := iD hT
  clear hT HMV
  go_wp2_with fail
  go_ret
  exact ⟨rfl, HT.out⟩
end
end Go.Proofs.YtepicjpdhpojnaaGreatDoor
