import Derived.Test.YtddddlhgaeameaaGreatDoorJ37
namespace Go.Proofs.YtddddlhgaeameaaGreatDoor
open Go.RowKit Tryz
theorem walk_SimulateAnswers (w : World) (hl : yr w) (A : Option Addr) (n c : Nat) (zs : List Int) (hs : Av w 1 A n c (zF zs)) (hz : ∀ z ∈ zs, (Lit.int .i64 z).wf = true)
 (A1 : Option Addr) (n1 c1 : Nat) (rs : List Int) (BS : Av w 1 A1 n1 c1 (zF rs)) (Fj : ∀ z ∈ rs, (Lit.int .i64 z).wf = true)
 (A2 : Option Addr) (n2 c2 : Nat) (ks : List Int) (IK : Av w 1 A2 n2 c2 (zF ks)) (GD : ∀ z ∈ ks, (Lit.int .i64 z).wf = true)
 (x : Lt Nd × Lt Dv) (hx : ij w x) (g : Int × Lt Lk × Lt Int) (hg : Av w 3 g.2.1.A g.2.1.n g.2.1.c (g.2.1.l.flatMap Lk.cells) ∧ Av w 1 g.2.2.A g.2.2.n g.2.2.c (zF g.2.2.l)) (s : Sp) (_hst : True)
 (p : ByteArray × Lt Sp) (hp : p.1.size ≤ 9223372036854775807 ∧ Av w 5 p.2.A p.2.n p.2.c (p.2.l.flatMap Sp.cells)) :
 Calls prog 3 #[.slice A n c, .slice A1 n1 c1, .slice A2 n2 c2, .agg #[.slice x.1.A x.1.n x.1.c, .slice x.2.A x.2.n x.2.c], .agg #[.int .i64 g.1, .slice g.2.1.A g.2.1.n g.2.1.c, .slice g.2.2.A g.2.2.n g.2.2.c], .agg #[.int .i64 s.kind, .int .i64 s.dev, .int .i64 s.node, .int .i64 s.pos, .int .i64 s.key], .agg #[.string p.1, .slice p.2.A p.2.n p.2.c]] w fun e w' => e = .returned (.bool true) ∧ bW w w' :=
 walkH_SimulateAnswers w hl A n c zs hs hz A1 n1 c1 rs BS Fj A2 n2 c2 ks IK GD x.1.A x.2.A x.1.n x.1.c x.2.n x.2.c x.1.l x.2.l hx.1 hx.2.1 hx.2.2.1 hx.2.2.2 g.1 g.2.1.A g.2.2.A g.2.1.n g.2.1.c g.2.2.n g.2.2.c g.2.1.l g.2.2.l hg.1 hg.2 s.kind s.dev s.node s.pos s.key p.1 p.2.A p.2.n p.2.c p.2.l hp.1 hp.2
end Go.Proofs.YtddddlhgaeameaaGreatDoor
