import Derived.Test.YtddddlhgaeameaaGreatDoorM42
import Derived.Test.YtddddlhgaeameaaGreatDoorM28
import Derived.Test.YtddddlhgaeameaaGreatDoorM29
import Derived.Test.YtddddlhgaeameaaGreatDoorM32
set_option maxRecDepth 100000
set_option maxHeartbeats 16000000
namespace Go.Proofs.YtddddlhgaeameaaGreatDoor
section
open Go.RowKit
def nsE : List Nd := [⟨⟨#[65]⟩, 0, 0⟩, ⟨⟨#[66]⟩, 0, 0⟩]
def dsE : List Dv := [⟨⟨#[81]⟩, 2, 0, 1, 0⟩, ⟨⟨#[69]⟩, 4, 1, -1, 0⟩]
def xsE : List Sp := [⟨1, 0, 0, 0, 0⟩, ⟨5, 0, 1, 0, 0⟩, ⟨2, 1, 0, 0, 0⟩]
theorem qo : (∀ x ∈ nsE, x.name.size ≤ 9223372036854775807) ∧ (∀ x ∈ dsE, x.name.size ≤ 9223372036854775807) := by
 constructor <;> intro x hx <;> simp [nsE, dsE] at hx <;> rcases hx with rfl | rfl <;> decide
theorem smE : yw nsE dsE [2, 1] 0 [] [] ⟨#[80]⟩ xsE = 0 := by decide
theorem iC : yv nsE dsE 0 [0] 0 [] ⟨[2, 1], [], []⟩ xsE = ([], ⟨[2, 1], [], []⟩, 0) := by unfold xsE; rw [yv, if_pos (by decide)]
theorem iB : ∃ out pr, yv nsE dsE 0 [] 0 [] ⟨[2, 1], [], []⟩ xsE = (out, ⟨[1, 2], [], pr⟩, 3) := by
 have e1 : zf nsE dsE 0 ⟨[2, 1], [], []⟩ ⟨1, 0, 0, 0, 0⟩ = ⟨hzD nsE dsE [2, 1] 0 1 0 [] [], ⟨[1, 1], [], []⟩, true⟩ := by rw [uo _ _ _ _ _ _ _ _ (.inl rfl)]; rfl
 obtain ⟨h2, pr2, e2⟩ : ∃ h2 pr2, zf nsE dsE 0 ⟨[1, 1], [], []⟩ ⟨5, 0, 1, 0, 0⟩ = ⟨h2, ⟨[1, 1], [], pr2⟩, true⟩ := by
  rw [pO]; split
  ·exact ⟨_, _, rfl⟩
  ·exact ⟨_, _, rfl⟩
 obtain ⟨h3, pr3, e3⟩ : ∃ h3 pr3, zf nsE dsE 0 ⟨[1, 1], [], pr2⟩ ⟨2, 1, 0, 0, 0⟩ = ⟨h3, ⟨[1, 2], [], pr3⟩, true⟩ := by
  rw [uo _ _ _ _ _ _ _ _ (.inr rfl)]; exact ⟨_, _, rfl⟩
 refine ⟨[] ++ yW 0 (hzD nsE dsE [2, 1] 0 1 0 [] []) ++ yW 1 h2 ++ yW 2 h3, pr3, ?_⟩
 unfold xsE
 rw [yv, if_neg (by decide), e1, if_pos rfl, yv, if_neg (by decide), e2, if_pos rfl, yv, if_neg (by decide), e3, if_pos rfl, yv] <;> rfl
structure AwE (w wr : World) : Prop where
 bn : Blk wr (w.heap.size + 2) 26 #[.slice (some ⟨w.heap.size, 0, none⟩) 2 2, .slice (some ⟨w.heap.size + 1, 0, none⟩) 2 2]
 bp : Blk wr (w.heap.size + 4) 34 #[.string ⟨#[80]⟩, .slice (some ⟨w.heap.size + 3, 0, none⟩) 3 3]
 sn : Sl wr wr.heap.size 3 (some ⟨w.heap.size, 0, none⟩) 2 2 (nsE.flatMap Nd.cells)
 sd : Sl wr wr.heap.size 5 (some ⟨w.heap.size + 1, 0, none⟩) 2 2 (dsE.flatMap Dv.cells)
 sx : Sl wr wr.heap.size 5 (some ⟨w.heap.size + 3, 0, none⟩) 3 3 (xsE.flatMap Sp.cells)
 bl : Below w.heap.size w wr
 la : Laid wr
theorem AwE.later {w wr wr' : World} (h : AwE w wr) (hb : Below wr.heap.size wr wr') : AwE w wr' :=
 ⟨h.bn.below hb h.bn.lt, h.bp.below hb h.bp.lt, (h.sn.below hb lR).more hb.size, (h.sd.below hb lR).more hb.size, (h.sx.below hb lR).more hb.size, h.bl.trans (hb.mono h.bl.size), h.la.below hb lR⟩
theorem AwE.mk0 (w : World) (hl : Laid w) : AwE w (((((w.alloc (.cells #[.string ⟨#[65]⟩, .int .i64 0, .int .i64 0, .string ⟨#[66]⟩, .int .i64 0, .int .i64 0] 73)).alloc (.cells #[.string ⟨#[81]⟩, .int .i64 2, .int .i64 0, .int .i64 1, .int .i64 0, .string ⟨#[69]⟩, .int .i64 4, .int .i64 1, .int .i64 (-1), .int .i64 0] 75)).alloc (.cells #[.slice (some ⟨w.heap.size, 0, none⟩) 2 2, .slice (some ⟨w.heap.size + 1, 0, none⟩) 2 2] 26)).alloc (.cells #[.int .i64 1, .int .i64 0, .int .i64 0, .int .i64 0, .int .i64 0, .int .i64 5, .int .i64 0, .int .i64 1, .int .i64 0, .int .i64 0, .int .i64 2, .int .i64 1, .int .i64 0, .int .i64 0, .int .i64 0] 31)).alloc (.cells #[.string ⟨#[80]⟩, .slice (some ⟨w.heap.size + 1 + 1 + 1, 0, none⟩) 3 3] 34)) := by
 obtain ⟨h0, h1, h2, h3, h4⟩ := jM w 73 75 26 31 #[.string ⟨#[65]⟩, .int .i64 0, .int .i64 0, .string ⟨#[66]⟩, .int .i64 0, .int .i64 0] #[.string ⟨#[81]⟩, .int .i64 2, .int .i64 0, .int .i64 1, .int .i64 0, .string ⟨#[69]⟩, .int .i64 4, .int .i64 1, .int .i64 (-1), .int .i64 0] #[.slice (some ⟨w.heap.size, 0, none⟩) 2 2, .slice (some ⟨w.heap.size + 1, 0, none⟩) 2 2] #[.int .i64 1, .int .i64 0, .int .i64 0, .int .i64 0, .int .i64 0, .int .i64 5, .int .i64 0, .int .i64 1, .int .i64 0, .int .i64 0, .int .i64 2, .int .i64 1, .int .i64 0, .int .i64 0, .int .i64 0]
 have hl4 := (((hl.alloc (.cells #[.string ⟨#[65]⟩, .int .i64 0, .int .i64 0, .string ⟨#[66]⟩, .int .i64 0, .int .i64 0] 73)).alloc (.cells #[.string ⟨#[81]⟩, .int .i64 2, .int .i64 0, .int .i64 1, .int .i64 0, .string ⟨#[69]⟩, .int .i64 4, .int .i64 1, .int .i64 (-1), .int .i64 0] 75)).alloc (.cells #[.slice (some ⟨w.heap.size, 0, none⟩) 2 2, .slice (some ⟨w.heap.size + 1, 0, none⟩) 2 2] 26)).alloc (.cells #[.int .i64 1, .int .i64 0, .int .i64 0, .int .i64 0, .int .i64 0, .int .i64 5, .int .i64 0, .int .i64 1, .int .i64 0, .int .i64 0, .int .i64 2, .int .i64 1, .int .i64 0, .int .i64 0, .int .i64 0] 31)
 have hz : ((((w.alloc (.cells #[.string ⟨#[65]⟩, .int .i64 0, .int .i64 0, .string ⟨#[66]⟩, .int .i64 0, .int .i64 0] 73)).alloc (.cells #[.string ⟨#[81]⟩, .int .i64 2, .int .i64 0, .int .i64 1, .int .i64 0, .string ⟨#[69]⟩, .int .i64 4, .int .i64 1, .int .i64 (-1), .int .i64 0] 75)).alloc (.cells #[.slice (some ⟨w.heap.size, 0, none⟩) 2 2, .slice (some ⟨w.heap.size + 1, 0, none⟩) 2 2] 26)).alloc (.cells #[.int .i64 1, .int .i64 0, .int .i64 0, .int .i64 0, .int .i64 0, .int .i64 5, .int .i64 0, .int .i64 1, .int .i64 0, .int .i64 0, .int .i64 2, .int .i64 1, .int .i64 0, .int .i64 0, .int .i64 0] 31)).heap.size = w.heap.size + 4 := by simp
 generalize World.alloc (World.alloc (World.alloc (World.alloc w _) _) _) _ = W at *
 have h5 := Blk.new W 34 #[.string ⟨#[80]⟩, .slice (some ⟨w.heap.size + 1 + 1 + 1, 0, none⟩) 3 3]
 rw [hz] at h5
 have sb : ∀ {g : Nat} {T : TypeId} {cs : Array Value} {n size : Nat} {xs : List Value}, Blk W g T cs → cs.toList = xs → cs.size = n * size → n ≤ 100 → Sl (W.alloc (.cells #[.string ⟨#[80]⟩, .slice (some ⟨w.heap.size + 1 + 1 + 1, 0, none⟩) 3 3] 34)) (W.alloc (.cells #[.string ⟨#[80]⟩, .slice (some ⟨w.heap.size + 1 + 1 + 1, 0, none⟩) 3 3] 34)).heap.size size (some ⟨g, 0, none⟩) n n xs := fun {g T cs n size xs} hb he hc hn => by
  subst he
  have hb2 := hb.alloc (.cells #[.string ⟨#[80]⟩, .slice (some ⟨w.heap.size + 1 + 1 + 1, 0, none⟩) 3 3] 34)
  refine ⟨by simpa using hc, Nat.le_refl _, by omega, (fun e => by cases e), fun _ => ⟨g, 0, rfl, hb2.lt, fun j u hu => ?_⟩⟩
  rw [Nat.zero_add, hb2.cell]; simpa using hu
 exact ⟨h2.alloc _, h5, sb h0 rfl rfl (by decide), sb h1 rfl rfl (by decide), sb h3 rfl rfl (by decide), h4.alloc (by omega) _, hl4.alloc _⟩
theorem yL (w : World) (hl : Laid w) : Calls Tryz.prog 8 #[] w fun e w' => e = .returned (.bool true) ∧ Below w.heap.size w w' := by
 have HA0 := iD (AwE.mk0 w hl)
 clear hl
 go_enter Tryz.func8, Tryz.ntmps8
 go_upto_region 3 with (fail)
 generalize World.alloc (World.alloc (World.alloc (World.alloc (World.alloc w _) _) _) _) _ = W at *
 rw [show w.heap.size + 1 + 1 = w.heap.size + 2 from rfl, show w.heap.size + 2 + 1 = w.heap.size + 3 from rfl, show w.heap.size + 3 + 1 = w.heap.size + 4 from rfl]
 have k0 := HA0.out.bn.c0
 have k1 := HA0.out.bn.c1
 have p0 := HA0.out.bp.c0
 have p1 := HA0.out.bp.c1
 have hlt := HA0.out.bp.lt
 go_wp2_with fail
 clear k0 k1 p0 p1 hlt
 have HA1 : Hid (AwE w ((W.alloc (.cells #[.int .i64 2, .int .i64 1] 3)).alloc (.cells #[.int .i64 0] 3))) := HA0.out.later (((Below.refl _ _).alloc lR _).alloc (by simp) _)
 have HS1 : Hid (Sl ((W.alloc (.cells #[.int .i64 2, .int .i64 1] 3)).alloc (.cells #[.int .i64 0] 3)) ((W.alloc (.cells #[.int .i64 2, .int .i64 1] 3)).alloc (.cells #[.int .i64 0] 3)).heap.size 1 (some ⟨W.heap.size, 0, none⟩) 2 2 (zK [2, 1])) := (Sl.alloc (B := W.heap.size + 1) (Sl.newest (n := 2) (size := 1) rfl rfl (by decide)) (by simp) _).more (by simp)
 have HK1 : Hid (Sl ((W.alloc (.cells #[.int .i64 2, .int .i64 1] 3)).alloc (.cells #[.int .i64 0] 3)) ((W.alloc (.cells #[.int .i64 2, .int .i64 1] 3)).alloc (.cells #[.int .i64 0] 3)).heap.size 1 (some ⟨W.heap.size + 1, 0, none⟩) 1 1 (zK [0])) := (Sl.newest (H := W.heap.size + 1) (n := 1) (size := 1) (by simp) rfl (by decide)).more (by simp)
 generalize World.alloc (World.alloc W _) _ = w1 at *
 have HM1 : Hid (rO w1 (some ⟨w.heap.size, 0, none⟩) (some ⟨w.heap.size + 1, 0, none⟩) (some ⟨W.heap.size, 0, none⟩) none none (some ⟨w.heap.size + 3, 0, none⟩) 2 2 2 2 2 2 0 0 0 0 3 3 nsE dsE [2, 1] [] [] ⟨#[80]⟩ xsE) := ⟨⟨HA1.out.sn, HA1.out.sd, HS1.out, Sl.nil _ _ _, Sl.nil _ _ _, HA1.out.la, qo.1, qo.2⟩, HA1.out.sx, by decide⟩
 clear HA0
 refine (mL _ _ _ _ _ _ _ 2 2 2 2 2 2 0 0 0 0 3 3 1 1 nsE dsE [2, 1] [] [] 0 ⟨#[80]⟩ xsE [0] w1 HM1.out HK1.out).mono ?_
 rintro e w2 ⟨⟨h1, -⟩ | ⟨-, A1, A2, A3, A4, n1, c1, n2, c2, n3, c3, n4, c4, rfl, hR⟩, hb2⟩
 ·exact absurd smE h1
 rw [iC] at hR ⊢
 have HA2 := iD (HA1.out.later hb2.out)
 obtain rfl : 0 = n1 := hR.out.o.len (f := Fn.cells) (fun _ => rfl) (by decide)
 obtain rfl : 0 = n4 := hR.out.p.len (l := []) (f := fun z => [Value.int .i64 z]) (fun _ => rfl) (by decide)
 have HS2 := iD hR.out.s
 clear hR hb2 HA1 HS1 HK1 HM1
 dsimp only at HS2
 go_upto_region 4 with (fail)
 have HG5 := iD (Blk.new w2 29 #[.int .i64 0, .slice A3 n3 c3, .slice A4 0 c4])
 have HB3 : Hid (Below w2.heap.size w2 (w2.alloc (.cells #[.int .i64 0, .slice A3 n3 c3, .slice A4 0 c4] 29))) := (Below.refl _ _).alloc lR _
 have HA3 := iD (HA2.out.later HB3.out)
 have HS3 := iD ((HS2.out.below HB3.out lR).more HB3.out.size)
 clear HA2 HS2 HB3
 generalize World.alloc w2 _ = w3 at *
 obtain ⟨gb, hgb⟩ : ∃ x, x = w2.heap.size := ⟨_, rfl⟩
 rw [← hgb] at HG5 ⊢
 clear hgb
 have k0 := HA3.out.bn.c0
 have k1 := HA3.out.bn.c1
 have p0 := HA3.out.bp.c0
 have p1 := HA3.out.bp.c1
 have hlt := HA3.out.bp.lt
 go_wp2_with fail
 clear k0 k1 p0 p1 hlt
 have HB4 : Hid (Below w3.heap.size w3 (w3.alloc (.cells #[.int .i64 2, .int .i64 1] 3))) := (Below.refl _ _).alloc lR _
 have HA4 := iD (HA3.out.later HB4.out)
 have HS4 := iD ((HS3.out.below HB4.out lR).more HB4.out.size)
 have HG4 := iD (HG5.out.below HB4.out HG5.out.lt)
 have HN4 : Hid (Sl (w3.alloc (.cells #[.int .i64 2, .int .i64 1] 3)) (w3.alloc (.cells #[.int .i64 2, .int .i64 1] 3)).heap.size 1 (some ⟨w3.heap.size, 0, none⟩) 2 2 (zK [2, 1])) := (Sl.newest (H := w3.heap.size) (n := 2) (size := 1) rfl rfl (by decide)).more (by simp)
 clear HA3 HS3 HG5 HB4
 generalize World.alloc w3 _ = w4 at *
 have HM4 : Hid (rO w4 (some ⟨w.heap.size, 0, none⟩) (some ⟨w.heap.size + 1, 0, none⟩) (some ⟨w3.heap.size, 0, none⟩) none none (some ⟨w.heap.size + 3, 0, none⟩) 2 2 2 2 2 2 0 0 0 0 3 3 nsE dsE [2, 1] [] [] ⟨#[80]⟩ xsE) := ⟨⟨HA4.out.sn, HA4.out.sd, HN4.out, Sl.nil _ _ _, Sl.nil _ _ _, HA4.out.la, qo.1, qo.2⟩, HA4.out.sx, by decide⟩
 refine (mL _ _ _ _ _ _ _ 2 2 2 2 2 2 0 0 0 0 3 3 0 0 nsE dsE [2, 1] [] [] 0 ⟨#[80]⟩ xsE [] w4 HM4.out (Sl.nil _ _ _)).mono ?_
 rintro e w5 ⟨⟨h1, -⟩ | ⟨-, D1, D2, D3, D4, m1, d1, m2, d2, m3, d3, m4, d4, rfl, hR⟩, hb5⟩
 ·exact absurd smE h1
 obtain ⟨out, prE, hrun⟩ := iB
 rw [hrun] at hR ⊢
 have HA5 := iD (HA4.out.later hb5.out)
 have HS5 := iD ((HS4.out.below hb5.out lR).more hb5.out.size)
 have HG6 := iD (HG4.out.below hb5.out HG4.out.lt)
 have HT5 := iD hR.out.s
 dsimp only at HT5
 clear hR hb5 hrun HA4 HS4 HG4 HM4 HN4
 go_upto_region 5 with (fail)
 have HB6 : Hid (Below w5.heap.size w5 (w5.alloc (.cells #[.int .i64 0, .slice D3 m3 d3, .slice D4 m4 d4] 29))) := (Below.refl _ _).alloc lR _
 have HA6 := iD (HA5.out.later HB6.out)
 have HS6 := iD ((HS5.out.below HB6.out lR).more HB6.out.size)
 have HT6 := iD ((HT5.out.below HB6.out lR).more HB6.out.size)
 have HG7 := iD (HG6.out.below HB6.out HG6.out.lt)
 clear HA5 HS5 HT5 HG6 HB6
 generalize World.alloc w5 _ = w6 at *
 go_wp2_with fail
 have HB7 : Hid (Below w6.heap.size w6 (w6.alloc (.cells #[.int .i64 2, .int .i64 1] 3))) := (Below.refl _ _).alloc lR _
 have HA7 := iD (HA6.out.later HB7.out)
 have HS7 := iD ((HS6.out.below HB7.out lR).more HB7.out.size)
 have HT7 := iD ((HT6.out.below HB7.out lR).more HB7.out.size)
 have HG8 := iD (HG7.out.below HB7.out HG7.out.lt)
 have HN7 : Hid (Sl (w6.alloc (.cells #[.int .i64 2, .int .i64 1] 3)) (w6.alloc (.cells #[.int .i64 2, .int .i64 1] 3)).heap.size 1 (some ⟨w6.heap.size, 0, none⟩) 2 2 (zK [2, 1])) := (Sl.newest (H := w6.heap.size) (n := 2) (size := 1) rfl rfl (by decide)).more (by simp)
 clear HA6 HS6 HT6 HG7 HB7
 generalize World.alloc w6 _ = w7 at *
 refine (xT A2 _ n2 c2 2 2 w7.heap.size w7.heap.size [2, 1] [2, 1] w7 HS7.out HN7.out lR lR).mono ?_
 rintro e w8 ⟨rfl, hb8⟩
 rw [show decide (([2, 1] : List Int) = [2, 1]) = true from rfl]
 have HA8 := iD (HA7.out.later hb8)
 have HT8 := iD ((HT7.out.below hb8 lR).more hb8.size)
 have HG9 := iD (HG8.out.below hb8 HG8.out.lt)
 clear hb8 HA7 HS7 HT7 HG8 HN7
 have g2 := HG9.out.c2
 go_wp2_with fail
 clear g2
 have HB9 : Hid (Below w8.heap.size w8 (w8.alloc (.cells #[.int .i64 1, .int .i64 2] 3))) := (Below.refl _ _).alloc lR _
 have HA9 := iD (HA8.out.later HB9.out)
 have HT9 := iD ((HT8.out.below HB9.out lR).more HB9.out.size)
 have HN9 : Hid (Sl (w8.alloc (.cells #[.int .i64 1, .int .i64 2] 3)) (w8.alloc (.cells #[.int .i64 1, .int .i64 2] 3)).heap.size 1 (some ⟨w8.heap.size, 0, none⟩) 2 2 (zK [1, 2])) := (Sl.newest (H := w8.heap.size) (n := 2) (size := 1) rfl rfl (by decide)).more (by simp)
 clear HA8 HT8 HG9 HB9
 generalize World.alloc w8 _ = w9 at *
 refine (xT D2 _ m2 d2 2 2 w9.heap.size w9.heap.size [1, 2] [1, 2] w9 HT9.out HN9.out lR lR).mono ?_
 rintro e w10 ⟨rfl, hb10⟩
 rw [show decide (([1, 2] : List Int) = [1, 2]) = true from rfl]
 have HA10 := iD (HA9.out.later hb10)
 clear hb10 HA9 HT9 HN9
 go_wp2_with fail
 go_ret
 exact ⟨rfl, HA10.out.bl⟩
end
section
open Go.RowKit
open Classical in
theorem rm (Al Ap Bl Bp : Option Addr) (nl cl np cp ml dl mp dp : Nat) (co1 co2 : Int) (l1 l2 : List Lk) (p1 p2 : List Int) (w : World) (h1 : Sl w w.heap.size 3 Al nl cl (l1.flatMap Lk.cells)) (h2 : Sl w w.heap.size 1 Ap np cp (zK p1)) (h3 : Sl w w.heap.size 3 Bl ml dl (l2.flatMap Lk.cells)) (h4 : Sl w w.heap.size 1 Bp mp dp (zK p2)) :
 Calls Tryz.prog 19 #[.agg #[.int .i64 co1, .slice Al nl cl, .slice Ap np cp], .agg #[.int .i64 co2, .slice Bl ml dl, .slice Bp mp dp]] w fun e w' => e = .returned (.bool (decide (co1 = co2) && decide (l1 = l2) && decide (p1 = p2))) ∧ Below w.heap.size w w' := by
 have HB : Hid (Below w.heap.size w ((w.alloc (.cells #[.int .i64 co1, .slice Al nl cl, .slice Ap np cp] 29)).alloc (.cells #[.int .i64 co2, .slice Bl ml dl, .slice Bp mp dp] 29))) := ((Below.refl _ _).alloc lR _).alloc (by simp) _
 have HB0 := iD ((Blk.new w 29 #[.int .i64 co1, .slice Al nl cl, .slice Ap np cp]).alloc (.cells #[.int .i64 co2, .slice Bl ml dl, .slice Bp mp dp] 29))
 have HB1 : Hid (Blk ((w.alloc (.cells #[.int .i64 co1, .slice Al nl cl, .slice Ap np cp] 29)).alloc (.cells #[.int .i64 co2, .slice Bl ml dl, .slice Bp mp dp] 29)) (w.heap.size + 1) 29 #[.int .i64 co2, .slice Bl ml dl, .slice Bp mp dp]) := by
  have := Blk.new (w.alloc (.cells #[.int .i64 co1, .slice Al nl cl, .slice Ap np cp] 29)) 29 #[.int .i64 co2, .slice Bl ml dl, .slice Bp mp dp]
  unfold Hid; simpa using this
 have H1 := iD h1; have H2 := iD h2; have H3 := iD h3; have H4 := iD h4
 clear h1 h2 h3 h4
 go_enter Tryz.func19, Tryz.ntmps19
 go_upto_region 1 with (fail)
 generalize World.alloc (World.alloc w _) _ = W at *
 have a0 := HB0.out.c0
 have a1 := HB0.out.c1
 have b0 := HB1.out.c0
 have b1 := HB1.out.c1
 by_cases hc : co1 = co2; rotate_left
 ·have q1 : (co1 == co2) = false := by simpa using hc
  have HV : Hid ((decide (co1 = co2) && decide (l1 = l2) && decide (p1 = p2)) = false) := by unfold Hid; simp [hc]
  clear hc
  go_wp2_with fail
  go_ret
  exact ⟨by rw [HV.out]; rfl, HB.out⟩
 have q1 : (co1 == co2) = true := by simpa using hc
 have HV : Hid ((decide (co1 = co2) && decide (l1 = l2) && decide (p1 = p2)) = (decide (l1 = l2) && decide (p1 = p2))) := by unfold Hid; simp [hc]
 clear hc
 have HSL := iD (vF Al Bl nl cl ml dl w.heap.size w.heap.size l1 l2 W (H1.out.below HB.out lR) (H3.out.below HB.out lR) HB.out.size HB.out.size)
 go_wp2_with fail
 clear a0 a1 b0 b1 q1
 refine HSL.out.mono ?_
 rintro e w1 ⟨rfl, hb1⟩
 have HB2 := iD (HB.out.trans (hb1.mono HB.out.size))
 have a2 := (HB0.out.below hb1 HB0.out.lt).c2
 have b2 := (HB1.out.below hb1 HB1.out.lt).c2
 clear hb1 HSL
 by_cases hl : l1 = l2; rotate_left
 ·have HV2 : Hid ((decide (l1 = l2) && decide (p1 = p2)) = false) := by unfold Hid; simp [hl]
  rw [decide_eq_false hl]
  clear hl
  go_wp2_with fail
  go_ret
  exact ⟨by rw [HV.out, HV2.out]; rfl, HB2.out⟩
 have HV2 : Hid ((decide (l1 = l2) && decide (p1 = p2)) = decide (p1 = p2)) := by unfold Hid; simp [hl]
 rw [decide_eq_true hl]
 clear hl
 have HSI := iD (xT Ap Bp np cp mp dp w.heap.size w.heap.size p1 p2 w1 (H2.out.below HB2.out lR) (H4.out.below HB2.out lR) HB2.out.size HB2.out.size)
 go_wp2_with fail
 clear a2 b2
 refine HSI.out.mono ?_
 rintro e w2 ⟨rfl, hb2⟩
 have HB3 := iD (HB2.out.trans (hb2.mono HB2.out.size))
 clear hb2 HSI
 go_wp2_with fail
 go_ret
 exact ⟨by rw [HV.out, HV2.out]; rfl, HB3.out⟩
def Fn.eqB (a b : Fn) : Bool := a.st == b.st && a.hz == b.hz
end
section
open Go.RowKit
theorem rT {ns : List Nd} {ds : List Dv} {s : List Int} (hc : zR ns ds = 0) (hl : s.length = ds.length) (hp : ∀ p ∈ s, posB p = true) : zL ns ds s = 0 := by
 unfold zL; rw [if_neg (by simp [hc]), if_neg (by omega), if_pos hp]
theorem qZ (ρ : Operand → Value) (o : Oper) (x y : Operand) (w0 : World) (x7 : Nat) (co : Int) (Ag Ap : Option Addr) (mg cg np cp : Nat) (ho : o.op = .store 29 x y) (e7 : ρ x = .pointer (some ⟨x7, 0, none⟩)) (e39 : ρ y = .agg #[.int .i64 co, .slice Ag mg cg, .slice Ap np cp])
 (h : Blk w0 x7 29 #[.int .i64 0, .slice none 0 0, .slice none 0 0]) :
 (execOp ρ o).run Tryz.prog w0 = .ok .skip (((w0.setCell ⟨x7, 0, none⟩ (.int .i64 co)).setCell ⟨x7, 1, none⟩ (.slice Ag mg cg)).setCell ⟨x7, 2, none⟩ (.slice Ap np cp)) := by
 have a0 := h.c0
 have a1 := h.c1
 have a2 := h.c2
 have a3 := h.frozen 0; have a4 := h.frozen 1; have a5 := h.frozen 2
 clear h
 unfold execOp
 rw [ho]
 simp only [e7, e39]
 go_simp
theorem sg {w : World} {base size n c x : Nat} {e T : TypeId} {A : Option Addr} {xs : List Value} {cs : Array Value} (h : w.ownsRow base e size (.slice A n c) n xs) (hb : Blk w x T cs) (hne : e ≠ T) : ∀ b, (Value.slice A n c).ownBlock = some b → b ≠ x := by
 intro b hv hbx
 subst hbx
 rcases h.2 with ⟨h0, _⟩ | ⟨g, cap, cur, h0, _, hh, _⟩
 ·injection h0 with h1; subst h1; cases hv
 ·injection h0 with h1; subst h1
  have : g = b := by injection hv
  subst this
  unfold Blk at hb
  rw [hh] at hb
  injection hb with hb
  injection hb with _ hb
  exact hne hb
def GrB (W : World) (g : Nat) (W' : World) : Prop := zS W' g ∧ W.grownBy W' (some g)
def GsF (ds : List Dv) (s : List Int) (nn most : Nat) (W : World) (g : Nat) : List Value → World → Prop
 | [], W' => GrB W g W'
 | [v1], W' => GrB W g W' ∧ ∃ (Ag : Option Addr) (mg cg : Nat) (ls : List Lk), v1 = .slice Ag mg cg ∧ zt W' W.heap.size Ag mg cg ls ∧ xP ds s most ls
 | [v1, v2], W' => GrB W g W' ∧ ∃ (Ag : Option Addr) (mg cg : Nat) (ls : List Lk) (co : Int) (Ap : Option Addr) (np cp : Nat) (pr : List Int), v1 = .slice Ag mg cg ∧ v2 = .agg #[.int .i64 co, .slice Ag mg cg, .slice Ap np cp] ∧ (0 ≤ co ∧ co ≤ 7) ∧ zt W' W.heap.size Ag mg cg ls ∧ zU W' W.heap.size Ap np cp pr ∧ xP ds s most ls ∧ np ≤ nn ∧ yi nn (-1) pr = true
 | _, _ => False
theorem GrB.alloc {W W' : World} {g : Nat} (h : GrB W g W') (o : Obj) : GrB W g (W'.alloc o) := ⟨h.1.alloc o, zP h.2 (zN ((Below.refl _ _).alloc lR o) _)⟩
theorem GsF.base {ds : List Dv} {s : List Int} {nn most : Nat} {W W' : World} {g : Nat} : ∀ {vs : List Value}, GsF ds s nn most W g vs W' → GrB W g W'
 | [], h => h
 | [_], h => h.1
 | [_, _], h => h.1
 | _ :: _ :: _ :: _, h => h.elim
theorem GsF.alloc {ds : List Dv} {s : List Int} {nn most : Nat} {W W' : World} {g : Nat} : ∀ {vs : List Value} (o : Obj), GsF ds s nn most W g vs W' → GsF ds s nn most W g vs (W'.alloc o)
 | [], o, h => GrB.alloc h o
 | [_], o, ⟨h, Ag, mg, cg, ls, e, h1, h2⟩ => ⟨h.alloc o, Ag, mg, cg, ls, e, World.ownsRow.alloc h1 o, h2⟩
 | [_, _], o, ⟨h, Ag, mg, cg, ls, co, Ap, np, cp, pr, e1, e2, hc, h1, h2, h3⟩ => ⟨h.alloc o, Ag, mg, cg, ls, co, Ap, np, cp, pr, e1, e2, hc, World.ownsRow.alloc h1 o, World.ownsRow.alloc h2 o, h3⟩
 | _ :: _ :: _ :: _, _, h => h.elim
theorem GrB.set {W W' : World} {g x : Nat} (h : GrB W g W') (hg : g < W.heap.size) (hx : W.heap.size ≤ x) (i : Nat) (u : Value) : GrB W g (W'.setCell ⟨x, i, none⟩ u) :=
 ⟨h.1.setCell (by simp only; omega) u, zy h.2 (by simp only; omega) u⟩
theorem vx {w : World} {base size n c x : Nat} {e : TypeId} {A : Option Addr} {xs : List Value} (h : w.ownsRow base e size (.slice A n c) n xs) (hne : ∀ b, (Value.slice A n c).ownBlock = some b → b ≠ x) (i : Nat) (u : Value) : (w.setCell ⟨x, i, none⟩ u).ownsRow base e size (.slice A n c) n xs :=
 h.kept (yE _ _ _) (zm hne)
def set3 (w : World) (x : Nat) (u0 u1 u2 : Value) : World := ((w.setCell ⟨x, 0, none⟩ u0).setCell ⟨x, 1, none⟩ u1).setCell ⟨x, 2, none⟩ u2
structure jx (W : World) (g x7 : Nat) (Ag : Option Addr) (mg cg : Nat) (ls : List Lk) (co : Int) (Ap : Option Addr) (np cp : Nat) (pr : List Int) (W' : World) : Prop where
 b : GrB W g W'
 b7 : Blk W' x7 29 #[.int .i64 co, .slice Ag mg cg, .slice Ap np cp]
 hl : zt W' W.heap.size Ag mg cg ls
 hp : zU W' W.heap.size Ap np cp pr
theorem jx.of {W W' : World} {g x7 mg cg np cp : Nat} {Ag Ap : Option Addr} {ls : List Lk} {pr : List Int} (hB : GrB W g W') (h7 : Blk W' x7 29 #[.int .i64 0, .slice none 0 0, .slice none 0 0]) (hx7 : W.heap.size ≤ x7) (hg : g < W.heap.size)
 (hO : zt W' W.heap.size Ag mg cg ls) (hO2 : zU W' W.heap.size Ap np cp pr) (co : Int) : jx W g x7 Ag mg cg ls co Ap np cp pr (set3 W' x7 (.int .i64 co) (.slice Ag mg cg) (.slice Ap np cp)) := by
 have n7 := sg hO h7 (by decide)
 have p7 := sg hO2 h7 (by decide)
 unfold set3
 exact ⟨(((hB.set hg hx7 _ _).set hg hx7 _ _).set hg hx7 _ _), ((h7.set 0 _).set 1 _).set 2 _, vx (vx (vx hO n7 _ _) n7 _ _) n7 _ _, vx (vx (vx hO2 p7 _ _) p7 _ _) p7 _ _⟩
end
section
open Go.RowKit
structure MsM (w : World) (g x : Nat) (nt st : Array Value) (wr : World) : Prop where
 b0 : Blk wr w.heap.size 26 nt
 b1 : Blk wr (w.heap.size + 1) 31 #[.int .i64 0, .int .i64 0, .int .i64 0, .int .i64 0, .int .i64 0]
 bx : Blk wr x 31 st
 dk : zS wr g
 gr : w.grownBy wr (some g)
section
variable {w wr wr' : World} {g x : Nat} {nt st : Array Value}
theorem MsM.grown (h : MsM w g x nt st wr) (hg : wr.grownBy wr' (some g)) (hd : zS wr' g) (h0 : g < w.heap.size) (hx : w.heap.size + 1 < x) : MsM w g x nt st wr' :=
 ⟨h.b0.grown hg (fun e => by injection e with e; omega), h.b1.grown hg (fun e => by injection e with e; omega), h.bx.grown hg (fun e => by injection e with e; omega), hd, zP h.gr hg⟩
theorem MsM.put (h : MsM w g x nt st wr) (h0 : g < w.heap.size) (hx : w.heap.size + 1 < x) (i : Nat) (u : Value) : MsM w g x nt (st.setIfInBounds i u) (wr.setCell ⟨x, i, none⟩ u) :=
 ⟨h.b0.far (by show w.heap.size ≠ x; omega) _, h.b1.far (by show w.heap.size + 1 ≠ x; omega) _, h.bx.set i u, h.dk.setCell (by show g < x; omega) _, zy h.gr (by show w.heap.size ≤ x; omega) _⟩
theorem MsM.fin {a b c d e : Value} (h : MsM w g x nt #[a, b, c, d, e] wr) (h0 : g < w.heap.size) : Blk (ur wr (w.heap.size + 1) a b c d e) (w.heap.size + 1) 31 #[a, b, c, d, e] ∧ zS (ur wr (w.heap.size + 1) a b c d e) g ∧ w.grownBy (ur wr (w.heap.size + 1) a b c d e) (some g) :=
 ⟨h.b1.all5, ((((h.dk.setCell (p := ⟨w.heap.size + 1, 0, none⟩) (by simp; omega) a).setCell (p := ⟨w.heap.size + 1, 1, none⟩) (by simp; omega) b).setCell (p := ⟨w.heap.size + 1, 2, none⟩) (by simp; omega) c).setCell (p := ⟨w.heap.size + 1, 3, none⟩) (by simp; omega) d).setCell (p := ⟨w.heap.size + 1, 4, none⟩) (by simp; omega) e,
  zy (zy (zy (zy (zy h.gr (p := ⟨w.heap.size + 1, 0, none⟩) (by simp) a) (p := ⟨w.heap.size + 1, 1, none⟩) (by simp) b) (p := ⟨w.heap.size + 1, 2, none⟩) (by simp) c) (p := ⟨w.heap.size + 1, 3, none⟩) (by simp) d) (p := ⟨w.heap.size + 1, 4, none⟩) (by simp) e⟩
end
def jR (w : World) (g nn nd : Nat) (e : Ending) (w' : World) : Prop := ∃ (k d no p q : Int), e = .returned (.agg #[.int .i64 k, .int .i64 d, .int .i64 no, .int .i64 p, .int .i64 q]) ∧ Hid (zc nn nd ⟨k, d, no, p, q⟩ = 0) ∧ Hid (zS w' g) ∧ Hid (w.grownBy w' (some g))
theorem nB (g : Nat) (An Ad : Option Addr) (nn cn nd cd : Nat) (w : World) (hd : zS w g) (hnn : 0 < nn) (hnn1 : nn ≤ 1000) (hnd : 0 < nd) (hnd1 : nd ≤ 1000) :
 Calls Tryz.prog 15 #[.pointer (some ⟨g, 0, none⟩), .agg #[.slice An nn cn, .slice Ad nd cd]] w (jR w g nn nd) := by
 have hlt := hd.lt
 have HB0 := iD ((Blk.new w 26 #[.slice An nn cn, .slice Ad nd cd]).alloc (.cells #[.int .i64 0, .int .i64 0, .int .i64 0, .int .i64 0, .int .i64 0] 31))
 have HB1 : Hid (Blk ((w.alloc (.cells #[.slice An nn cn, .slice Ad nd cd] 26)).alloc (.cells #[.int .i64 0, .int .i64 0, .int .i64 0, .int .i64 0, .int .i64 0] 31)) (w.heap.size + 1) 31 #[.int .i64 0, .int .i64 0, .int .i64 0, .int .i64 0, .int .i64 0]) := by
  have := Blk.new (w.alloc (.cells #[.slice An nn cn, .slice Ad nd cd] 26)) 31 #[.int .i64 0, .int .i64 0, .int .i64 0, .int .i64 0, .int .i64 0]
  unfold Hid; simpa using this
 have HBL : Hid (Below w.heap.size w ((w.alloc (.cells #[.slice An nn cn, .slice Ad nd cd] 26)).alloc (.cells #[.int .i64 0, .int .i64 0, .int .i64 0, .int .i64 0, .int .i64 0] 31))) := ((Below.refl _ _).alloc lR _).alloc (by simp) _
 have HD0 := iD ((hd.alloc (.cells #[.slice An nn cn, .slice Ad nd cd] 26)).alloc (.cells #[.int .i64 0, .int .i64 0, .int .i64 0, .int .i64 0, .int .i64 0] 31))
 clear hd
 go_enter Tryz.func15, Tryz.ntmps15
 go_upto_region 1 with (fail)
 generalize World.alloc (World.alloc w _) _ = W at *
 go_wp2_with fail
 refine (zW g 6 W HD0.out (by decide)).mono ?_
 rintro e w1 ⟨r, rfl, hv0, _, hv1, hd1, hg1, hs1⟩
 have hvn := hv1.out (by decide)
 have hx : w.heap.size + 1 < w1.heap.size := by have := HB1.out.lt; have := hg1.out.size; omega
 have HG1 := iD (zP (zN HBL.out (some g)) hg1.out)
 have HC0 := iD (HB0.out.grown hg1.out (fun e => by injection e with e; omega))
 have HC1 := iD (HB1.out.grown hg1.out (fun e => by injection e with e; omega))
 have HDK := iD hd1.out
 clear hv1 hd1 hg1 hs1 HB0 HB1 HBL HD0
 rcases (show r = 0 ∨ r = 1 ∨ r = 2 ∨ r = 3 ∨ r = 4 ∨ r = 5 by omega) with rfl | rfl | rfl | rfl | rfl | rfl
 ·clear hv0 hvn
  go_upto_region 2 with (fail)
  have HM : Hid (MsM w g w1.heap.size #[.slice An nn cn, .slice Ad nd cd] #[.int .i64 1, .int .i64 0, .int .i64 0, .int .i64 0, .int .i64 0] (w1.alloc (.cells #[.int .i64 1, .int .i64 0, .int .i64 0, .int .i64 0, .int .i64 0] 31))) := ⟨HC0.out.alloc _, HC1.out.alloc _, Blk.new _ _ _, HDK.out.alloc _, zP HG1.out (zN ((Below.refl _ _).alloc lR _) _)⟩
  clear HC0 HC1 HDK HG1
  generalize World.alloc w1 _ = V at *
  obtain ⟨x, hxx⟩ : ∃ x, x = w1.heap.size := ⟨_, rfl⟩
  rw [← hxx] at HM hx ⊢
  clear hxx
  have b0 := HM.out.b0.c0
  have b1 := HM.out.b0.c1
  have s0 := HM.out.bx.c0
  go_wp2_with fail
  clear b0 b1 s0
  refine (zW g (nd : Int) V HM.out.dk (by omega)).mono ?_
  rintro e w2 ⟨v1, rfl, h01, _, hv1, hd1, hg1, hs1⟩
  have h11 := hv1.out (by omega)
  have HM := iD (HM.out.grown hg1.out hd1.out hlt hx)
  clear hv1 hd1 hg1 hs1
  have c0 := HM.out.bx.c1
  have f0 := HM.out.bx.frozen 1
  have HM := iD (HM.out.put hlt hx 1 (.int .i64 v1))
  go_upto_region 6 with (fail)
  clear c0 f0
  generalize World.setCell w2 _ _ = X1 at *
  have HM : Hid (MsM w g x #[.slice An nn cn, .slice Ad nd cd] #[.int .i64 1, .int .i64 v1, .int .i64 0, .int .i64 0, .int .i64 0] X1) := HM.out
  have s0 := HM.out.bx.c0
  have s1 := HM.out.bx.c1
  have s2 := HM.out.bx.c2
  have s3 := HM.out.bx.c3
  have s4 := HM.out.bx.c4
  have d0 := HM.out.b1.c0
  have y50 := HM.out.b1.frozen 0
  have d1 := HM.out.b1.c1
  have y51 := HM.out.b1.frozen 1
  have d2 := HM.out.b1.c2
  have y52 := HM.out.b1.frozen 2
  have d3 := HM.out.b1.c3
  have y53 := HM.out.b1.frozen 3
  have d4 := HM.out.b1.c4
  have y54 := HM.out.b1.frozen 4
  have HF := iD (HM.out.fin hlt)
  unfold ur at HF
  go_wp2_with fail
  generalize World.setCell (World.setCell (World.setCell (World.setCell (World.setCell X1 _ _) _ _) _ _) _ _) _ _ = z at *
  have q0 := HF.out.1.c0
  have q1 := HF.out.1.c1
  have q2 := HF.out.1.c2
  have q3 := HF.out.1.c3
  have q4 := HF.out.1.c4
  exact bodyPost_ret (v := .agg #[.int .i64 1, .int .i64 v1, .int .i64 0, .int .i64 0, .int .i64 0]) (by simp [results, Tryz.results15, go_sem, q0, q1, q2, q3, q4]) rfl ⟨_, _, _, _, _, rfl, by unfold Hid; rw [pM, if_neg (by omega), if_neg (by omega)], HF.out.2.1, HF.out.2.2⟩
 ·clear hv0 hvn
  go_upto_region 2 with (fail)
  have HM : Hid (MsM w g w1.heap.size #[.slice An nn cn, .slice Ad nd cd] #[.int .i64 2, .int .i64 0, .int .i64 0, .int .i64 0, .int .i64 0] (w1.alloc (.cells #[.int .i64 2, .int .i64 0, .int .i64 0, .int .i64 0, .int .i64 0] 31))) := ⟨HC0.out.alloc _, HC1.out.alloc _, Blk.new _ _ _, HDK.out.alloc _, zP HG1.out (zN ((Below.refl _ _).alloc lR _) _)⟩
  clear HC0 HC1 HDK HG1
  generalize World.alloc w1 _ = V at *
  obtain ⟨x, hxx⟩ : ∃ x, x = w1.heap.size := ⟨_, rfl⟩
  rw [← hxx] at HM hx ⊢
  clear hxx
  have b0 := HM.out.b0.c0
  have b1 := HM.out.b0.c1
  have s0 := HM.out.bx.c0
  go_wp2_with fail
  clear b0 b1 s0
  refine (zW g (nd : Int) V HM.out.dk (by omega)).mono ?_
  rintro e w2 ⟨v1, rfl, h01, _, hv1, hd1, hg1, hs1⟩
  have h11 := hv1.out (by omega)
  have HM := iD (HM.out.grown hg1.out hd1.out hlt hx)
  clear hv1 hd1 hg1 hs1
  have c0 := HM.out.bx.c1
  have f0 := HM.out.bx.frozen 1
  have HM := iD (HM.out.put hlt hx 1 (.int .i64 v1))
  go_upto_region 6 with (fail)
  clear c0 f0
  generalize World.setCell w2 _ _ = X1 at *
  have HM : Hid (MsM w g x #[.slice An nn cn, .slice Ad nd cd] #[.int .i64 2, .int .i64 v1, .int .i64 0, .int .i64 0, .int .i64 0] X1) := HM.out
  have s0 := HM.out.bx.c0
  have s1 := HM.out.bx.c1
  have s2 := HM.out.bx.c2
  have s3 := HM.out.bx.c3
  have s4 := HM.out.bx.c4
  have d0 := HM.out.b1.c0
  have y50 := HM.out.b1.frozen 0
  have d1 := HM.out.b1.c1
  have y51 := HM.out.b1.frozen 1
  have d2 := HM.out.b1.c2
  have y52 := HM.out.b1.frozen 2
  have d3 := HM.out.b1.c3
  have y53 := HM.out.b1.frozen 3
  have d4 := HM.out.b1.c4
  have y54 := HM.out.b1.frozen 4
  have HF := iD (HM.out.fin hlt)
  unfold ur at HF
  go_wp2_with fail
  generalize World.setCell (World.setCell (World.setCell (World.setCell (World.setCell X1 _ _) _ _) _ _) _ _) _ _ = z at *
  have q0 := HF.out.1.c0
  have q1 := HF.out.1.c1
  have q2 := HF.out.1.c2
  have q3 := HF.out.1.c3
  have q4 := HF.out.1.c4
  exact bodyPost_ret (v := .agg #[.int .i64 2, .int .i64 v1, .int .i64 0, .int .i64 0, .int .i64 0]) (by simp [results, Tryz.results15, go_sem, q0, q1, q2, q3, q4]) rfl ⟨_, _, _, _, _, rfl, by unfold Hid; rw [pL, if_neg (by omega), if_neg (by omega)], HF.out.2.1, HF.out.2.2⟩
 ·clear hv0 hvn
  go_upto_region 2 with (fail)
  have HM : Hid (MsM w g w1.heap.size #[.slice An nn cn, .slice Ad nd cd] #[.int .i64 3, .int .i64 0, .int .i64 0, .int .i64 0, .int .i64 0] (w1.alloc (.cells #[.int .i64 3, .int .i64 0, .int .i64 0, .int .i64 0, .int .i64 0] 31))) := ⟨HC0.out.alloc _, HC1.out.alloc _, Blk.new _ _ _, HDK.out.alloc _, zP HG1.out (zN ((Below.refl _ _).alloc lR _) _)⟩
  clear HC0 HC1 HDK HG1
  generalize World.alloc w1 _ = V at *
  obtain ⟨x, hxx⟩ : ∃ x, x = w1.heap.size := ⟨_, rfl⟩
  rw [← hxx] at HM hx ⊢
  clear hxx
  have b0 := HM.out.b0.c0
  have b1 := HM.out.b0.c1
  have s0 := HM.out.bx.c0
  go_wp2_with fail
  clear b0 b1 s0
  refine (zW g (nd : Int) V HM.out.dk (by omega)).mono ?_
  rintro e w2 ⟨v1, rfl, h01, _, hv1, hd1, hg1, hs1⟩
  have h11 := hv1.out (by omega)
  have HM := iD (HM.out.grown hg1.out hd1.out hlt hx)
  clear hv1 hd1 hg1 hs1
  have c0 := HM.out.bx.c1
  have f0 := HM.out.bx.frozen 1
  have HM := iD (HM.out.put hlt hx 1 (.int .i64 v1))
  go_upto_region 6 with (fail)
  clear c0 f0
  generalize World.setCell w2 _ _ = X1 at *
  have HM : Hid (MsM w g x #[.slice An nn cn, .slice Ad nd cd] #[.int .i64 3, .int .i64 v1, .int .i64 0, .int .i64 0, .int .i64 0] X1) := HM.out
  have b0 := HM.out.b0.c0
  have b1 := HM.out.b0.c1
  have s0 := HM.out.bx.c0
  go_wp2_with fail
  clear b0 b1 s0
  refine (zW g 2 X1 HM.out.dk (by omega)).mono ?_
  rintro e w3 ⟨v2, rfl, h02, _, hv1, hd1, hg1, hs1⟩
  have h12 := hv1.out (by omega)
  have HM := iD (HM.out.grown hg1.out hd1.out hlt hx)
  clear hv1 hd1 hg1 hs1
  have c0 := HM.out.bx.c3
  have f0 := HM.out.bx.frozen 3
  have HM := iD (HM.out.put hlt hx 3 (.int .i64 (1 + v2)))
  go_upto_region 8 with (fail)
  clear c0 f0
  generalize World.setCell w3 _ _ = X2 at *
  have HM : Hid (MsM w g x #[.slice An nn cn, .slice Ad nd cd] #[.int .i64 3, .int .i64 v1, .int .i64 0, .int .i64 (1 + v2), .int .i64 0] X2) := HM.out
  have b0 := HM.out.b0.c0
  have b1 := HM.out.b0.c1
  have s0 := HM.out.bx.c0
  go_wp2_with fail
  clear b0 b1 s0
  refine (zW g 12 X2 HM.out.dk (by omega)).mono ?_
  rintro e w4 ⟨v3, rfl, h03, _, hv1, hd1, hg1, hs1⟩
  have h13 := hv1.out (by omega)
  have HM := iD (HM.out.grown hg1.out hd1.out hlt hx)
  clear hv1 hd1 hg1 hs1
  have c0 := HM.out.bx.c4
  have f0 := HM.out.bx.frozen 4
  have HM := iD (HM.out.put hlt hx 4 (.int .i64 (10 + v3)))
  go_upto_region 10 with (fail)
  clear c0 f0
  generalize World.setCell w4 _ _ = X3 at *
  have HM : Hid (MsM w g x #[.slice An nn cn, .slice Ad nd cd] #[.int .i64 3, .int .i64 v1, .int .i64 0, .int .i64 (1 + v2), .int .i64 (10 + v3)] X3) := HM.out
  have s0 := HM.out.bx.c0
  have s1 := HM.out.bx.c1
  have s2 := HM.out.bx.c2
  have s3 := HM.out.bx.c3
  have s4 := HM.out.bx.c4
  have d0 := HM.out.b1.c0
  have y50 := HM.out.b1.frozen 0
  have d1 := HM.out.b1.c1
  have y51 := HM.out.b1.frozen 1
  have d2 := HM.out.b1.c2
  have y52 := HM.out.b1.frozen 2
  have d3 := HM.out.b1.c3
  have y53 := HM.out.b1.frozen 3
  have d4 := HM.out.b1.c4
  have y54 := HM.out.b1.frozen 4
  have HF := iD (HM.out.fin hlt)
  unfold ur at HF
  go_wp2_with fail
  generalize World.setCell (World.setCell (World.setCell (World.setCell (World.setCell X3 _ _) _ _) _ _) _ _) _ _ = z at *
  have q0 := HF.out.1.c0
  have q1 := HF.out.1.c1
  have q2 := HF.out.1.c2
  have q3 := HF.out.1.c3
  have q4 := HF.out.1.c4
  exact bodyPost_ret (v := .agg #[.int .i64 3, .int .i64 v1, .int .i64 0, .int .i64 (1 + v2), .int .i64 (10 + v3)]) (by simp [results, Tryz.results15, go_sem, q0, q1, q2, q3, q4]) rfl ⟨_, _, _, _, _, rfl, by unfold Hid; rw [tM, if_neg (by omega), if_neg (by omega), if_neg (by omega), if_neg (by omega)], HF.out.2.1, HF.out.2.2⟩
 ·clear hv0 hvn
  go_upto_region 2 with (fail)
  have HM : Hid (MsM w g w1.heap.size #[.slice An nn cn, .slice Ad nd cd] #[.int .i64 4, .int .i64 0, .int .i64 0, .int .i64 0, .int .i64 0] (w1.alloc (.cells #[.int .i64 4, .int .i64 0, .int .i64 0, .int .i64 0, .int .i64 0] 31))) := ⟨HC0.out.alloc _, HC1.out.alloc _, Blk.new _ _ _, HDK.out.alloc _, zP HG1.out (zN ((Below.refl _ _).alloc lR _) _)⟩
  clear HC0 HC1 HDK HG1
  generalize World.alloc w1 _ = V at *
  obtain ⟨x, hxx⟩ : ∃ x, x = w1.heap.size := ⟨_, rfl⟩
  rw [← hxx] at HM hx ⊢
  clear hxx
  have b0 := HM.out.b0.c0
  have b1 := HM.out.b0.c1
  have s0 := HM.out.bx.c0
  go_wp2_with fail
  clear b0 b1 s0
  refine (zW g (nd : Int) V HM.out.dk (by omega)).mono ?_
  rintro e w2 ⟨v1, rfl, h01, _, hv1, hd1, hg1, hs1⟩
  have h11 := hv1.out (by omega)
  have HM := iD (HM.out.grown hg1.out hd1.out hlt hx)
  clear hv1 hd1 hg1 hs1
  have c0 := HM.out.bx.c1
  have f0 := HM.out.bx.frozen 1
  have HM := iD (HM.out.put hlt hx 1 (.int .i64 v1))
  go_upto_region 6 with (fail)
  clear c0 f0
  generalize World.setCell w2 _ _ = X1 at *
  have HM : Hid (MsM w g x #[.slice An nn cn, .slice Ad nd cd] #[.int .i64 4, .int .i64 v1, .int .i64 0, .int .i64 0, .int .i64 0] X1) := HM.out
  have b0 := HM.out.b0.c0
  have b1 := HM.out.b0.c1
  have s0 := HM.out.bx.c0
  go_wp2_with fail
  clear b0 b1 s0
  refine (zW g 12 X1 HM.out.dk (by omega)).mono ?_
  rintro e w3 ⟨v2, rfl, h02, _, hv1, hd1, hg1, hs1⟩
  have h12 := hv1.out (by omega)
  have HM := iD (HM.out.grown hg1.out hd1.out hlt hx)
  clear hv1 hd1 hg1 hs1
  have c0 := HM.out.bx.c4
  have f0 := HM.out.bx.frozen 4
  have HM := iD (HM.out.put hlt hx 4 (.int .i64 (10 + v2)))
  go_upto_region 10 with (fail)
  clear c0 f0
  generalize World.setCell w3 _ _ = X2 at *
  have HM : Hid (MsM w g x #[.slice An nn cn, .slice Ad nd cd] #[.int .i64 4, .int .i64 v1, .int .i64 0, .int .i64 0, .int .i64 (10 + v2)] X2) := HM.out
  have s0 := HM.out.bx.c0
  have s1 := HM.out.bx.c1
  have s2 := HM.out.bx.c2
  have s3 := HM.out.bx.c3
  have s4 := HM.out.bx.c4
  have d0 := HM.out.b1.c0
  have y50 := HM.out.b1.frozen 0
  have d1 := HM.out.b1.c1
  have y51 := HM.out.b1.frozen 1
  have d2 := HM.out.b1.c2
  have y52 := HM.out.b1.frozen 2
  have d3 := HM.out.b1.c3
  have y53 := HM.out.b1.frozen 3
  have d4 := HM.out.b1.c4
  have y54 := HM.out.b1.frozen 4
  have HF := iD (HM.out.fin hlt)
  unfold ur at HF
  go_wp2_with fail
  generalize World.setCell (World.setCell (World.setCell (World.setCell (World.setCell X2 _ _) _ _) _ _) _ _) _ _ = z at *
  have q0 := HF.out.1.c0
  have q1 := HF.out.1.c1
  have q2 := HF.out.1.c2
  have q3 := HF.out.1.c3
  have q4 := HF.out.1.c4
  exact bodyPost_ret (v := .agg #[.int .i64 4, .int .i64 v1, .int .i64 0, .int .i64 0, .int .i64 (10 + v2)]) (by simp [results, Tryz.results15, go_sem, q0, q1, q2, q3, q4]) rfl ⟨_, _, _, _, _, rfl, by unfold Hid; rw [qU, if_neg (by omega), if_neg (by omega), if_neg (by omega)], HF.out.2.1, HF.out.2.2⟩
 ·clear hv0 hvn
  go_upto_region 2 with (fail)
  have HM : Hid (MsM w g w1.heap.size #[.slice An nn cn, .slice Ad nd cd] #[.int .i64 5, .int .i64 0, .int .i64 0, .int .i64 0, .int .i64 0] (w1.alloc (.cells #[.int .i64 5, .int .i64 0, .int .i64 0, .int .i64 0, .int .i64 0] 31))) := ⟨HC0.out.alloc _, HC1.out.alloc _, Blk.new _ _ _, HDK.out.alloc _, zP HG1.out (zN ((Below.refl _ _).alloc lR _) _)⟩
  clear HC0 HC1 HDK HG1
  generalize World.alloc w1 _ = V at *
  obtain ⟨x, hxx⟩ : ∃ x, x = w1.heap.size := ⟨_, rfl⟩
  rw [← hxx] at HM hx ⊢
  clear hxx
  have b0 := HM.out.b0.c0
  have b1 := HM.out.b0.c1
  have s0 := HM.out.bx.c0
  go_wp2_with fail
  clear b0 b1 s0
  refine (zW g (nn : Int) V HM.out.dk (by omega)).mono ?_
  rintro e w2 ⟨v1, rfl, h01, _, hv1, hd1, hg1, hs1⟩
  have h11 := hv1.out (by omega)
  have HM := iD (HM.out.grown hg1.out hd1.out hlt hx)
  clear hv1 hd1 hg1 hs1
  have c0 := HM.out.bx.c2
  have f0 := HM.out.bx.frozen 2
  have HM := iD (HM.out.put hlt hx 2 (.int .i64 v1))
  go_upto_region 4 with (fail)
  clear c0 f0
  generalize World.setCell w2 _ _ = X1 at *
  have HM : Hid (MsM w g x #[.slice An nn cn, .slice Ad nd cd] #[.int .i64 5, .int .i64 0, .int .i64 v1, .int .i64 0, .int .i64 0] X1) := HM.out
  have s0 := HM.out.bx.c0
  have s1 := HM.out.bx.c1
  have s2 := HM.out.bx.c2
  have s3 := HM.out.bx.c3
  have s4 := HM.out.bx.c4
  have d0 := HM.out.b1.c0
  have y50 := HM.out.b1.frozen 0
  have d1 := HM.out.b1.c1
  have y51 := HM.out.b1.frozen 1
  have d2 := HM.out.b1.c2
  have y52 := HM.out.b1.frozen 2
  have d3 := HM.out.b1.c3
  have y53 := HM.out.b1.frozen 3
  have d4 := HM.out.b1.c4
  have y54 := HM.out.b1.frozen 4
  have HF := iD (HM.out.fin hlt)
  unfold ur at HF
  go_wp2_with fail
  generalize World.setCell (World.setCell (World.setCell (World.setCell (World.setCell X1 _ _) _ _) _ _) _ _) _ _ = z at *
  have q0 := HF.out.1.c0
  have q1 := HF.out.1.c1
  have q2 := HF.out.1.c2
  have q3 := HF.out.1.c3
  have q4 := HF.out.1.c4
  exact bodyPost_ret (v := .agg #[.int .i64 5, .int .i64 0, .int .i64 v1, .int .i64 0, .int .i64 0]) (by simp [results, Tryz.results15, go_sem, q0, q1, q2, q3, q4]) rfl ⟨_, _, _, _, _, rfl, by unfold Hid; rw [pK, if_neg (by omega), if_neg (by omega)], HF.out.2.1, HF.out.2.2⟩
 ·clear hv0 hvn
  go_upto_region 2 with (fail)
  have HM : Hid (MsM w g w1.heap.size #[.slice An nn cn, .slice Ad nd cd] #[.int .i64 6, .int .i64 0, .int .i64 0, .int .i64 0, .int .i64 0] (w1.alloc (.cells #[.int .i64 6, .int .i64 0, .int .i64 0, .int .i64 0, .int .i64 0] 31))) := ⟨HC0.out.alloc _, HC1.out.alloc _, Blk.new _ _ _, HDK.out.alloc _, zP HG1.out (zN ((Below.refl _ _).alloc lR _) _)⟩
  clear HC0 HC1 HDK HG1
  generalize World.alloc w1 _ = V at *
  obtain ⟨x, hxx⟩ : ∃ x, x = w1.heap.size := ⟨_, rfl⟩
  rw [← hxx] at HM hx ⊢
  clear hxx
  have b0 := HM.out.b0.c0
  have b1 := HM.out.b0.c1
  have s0 := HM.out.bx.c0
  go_wp2_with fail
  clear b0 b1 s0
  refine (zW g (nd : Int) V HM.out.dk (by omega)).mono ?_
  rintro e w2 ⟨v1, rfl, h01, _, hv1, hd1, hg1, hs1⟩
  have h11 := hv1.out (by omega)
  have HM := iD (HM.out.grown hg1.out hd1.out hlt hx)
  clear hv1 hd1 hg1 hs1
  have c0 := HM.out.bx.c1
  have f0 := HM.out.bx.frozen 1
  have HM := iD (HM.out.put hlt hx 1 (.int .i64 v1))
  go_upto_region 6 with (fail)
  clear c0 f0
  generalize World.setCell w2 _ _ = X1 at *
  have HM : Hid (MsM w g x #[.slice An nn cn, .slice Ad nd cd] #[.int .i64 6, .int .i64 v1, .int .i64 0, .int .i64 0, .int .i64 0] X1) := HM.out
  have b0 := HM.out.b0.c0
  have b1 := HM.out.b0.c1
  have s0 := HM.out.bx.c0
  go_wp2_with fail
  clear b0 b1 s0
  refine (zW g 2 X1 HM.out.dk (by omega)).mono ?_
  rintro e w3 ⟨v2, rfl, h02, _, hv1, hd1, hg1, hs1⟩
  have h12 := hv1.out (by omega)
  have HM := iD (HM.out.grown hg1.out hd1.out hlt hx)
  clear hv1 hd1 hg1 hs1
  have c0 := HM.out.bx.c3
  have f0 := HM.out.bx.frozen 3
  have HM := iD (HM.out.put hlt hx 3 (.int .i64 (1 + v2)))
  go_upto_region 8 with (fail)
  clear c0 f0
  generalize World.setCell w3 _ _ = X2 at *
  have HM : Hid (MsM w g x #[.slice An nn cn, .slice Ad nd cd] #[.int .i64 6, .int .i64 v1, .int .i64 0, .int .i64 (1 + v2), .int .i64 0] X2) := HM.out
  have s0 := HM.out.bx.c0
  have s1 := HM.out.bx.c1
  have s2 := HM.out.bx.c2
  have s3 := HM.out.bx.c3
  have s4 := HM.out.bx.c4
  have d0 := HM.out.b1.c0
  have y50 := HM.out.b1.frozen 0
  have d1 := HM.out.b1.c1
  have y51 := HM.out.b1.frozen 1
  have d2 := HM.out.b1.c2
  have y52 := HM.out.b1.frozen 2
  have d3 := HM.out.b1.c3
  have y53 := HM.out.b1.frozen 3
  have d4 := HM.out.b1.c4
  have y54 := HM.out.b1.frozen 4
  have HF := iD (HM.out.fin hlt)
  unfold ur at HF
  go_wp2_with fail
  generalize World.setCell (World.setCell (World.setCell (World.setCell (World.setCell X2 _ _) _ _) _ _) _ _) _ _ = z at *
  have q0 := HF.out.1.c0
  have q1 := HF.out.1.c1
  have q2 := HF.out.1.c2
  have q3 := HF.out.1.c3
  have q4 := HF.out.1.c4
  exact bodyPost_ret (v := .agg #[.int .i64 6, .int .i64 v1, .int .i64 0, .int .i64 (1 + v2), .int .i64 0]) (by simp [results, Tryz.results15, go_sem, q0, q1, q2, q3, q4]) rfl ⟨_, _, _, _, _, rfl, by unfold Hid; rw [sU, if_neg (by omega), if_neg (by omega), if_neg (by omega)], HF.out.2.1, HF.out.2.2⟩
end
end Go.Proofs.YtddddlhgaeameaaGreatDoor
