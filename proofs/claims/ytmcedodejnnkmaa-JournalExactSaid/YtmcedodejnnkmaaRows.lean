/-
  No cell of these rows narrows 'for every input' (looked for: loops, veiled, ifaces, maps, wideKeys, modest, calm, conditions, laid).
  DERIVED. THE GIVEN ROWS OF THIS SEAT. 6 by the template 'for every input the law returns true; each argument reads behind the call as it read before'; 0 by the template 'total and deterministic' (their statements: YtmcedodejnnkmaaTotals.lean).
  GIVEN WITH THE SEED: the statements are not yours to turn. If you find one false, say at which input.
  Laid BY PROGRAM, IN A SANDBOX (cutbox-rows.mjs): the forced cells as the released guide's own fill.sh prints them over the translation 29209ada14eb49c0… (all of the seat's roots in one cut). By AI agents, Wed Nov 11 2026. No macro, syntax, notation, axiom, sorry.
-/
import Derived.Test.YtmcedodejnnkmaaChecked
import GoSem.Claim
import GoSem.ClaimJoined
import GoSem.ClaimMapViews
import Derived.JoinedTies
import Derived.KernelRfl
namespace Go.Proofs.Ytmcedodejnnkmaa
/- THE CELL 'sum', in the pinned program and in every row, IS THE sha256 OF THE DUMP (.gsa) THAT YtmcedodejnnkmaaProg.lean LOADS. Nothing in Lean hashes anything: it is a label: what it is worth is what the hold of that sum in a sandbox is worth. -/
noncomputable def Try.pinned : Pinned := { name := "ytmcedodejnnkmaa", sum := "29209ada14eb49c06b477af189c557ceb45b9d05ebfa7c1e519c0271fabf3f5c", checked := Try.checked }
namespace Rows
def none {H : Type} : Left H := { results := [], args := [] }

/-- 'permitofficelaw32.JournalDamage': WHATEVER THE INPUT: true; the input reads as it did. -/
def journalDamageSpec : ChangeSpec := { name := "journalDamage", fn := fun _ => fun
  | [d1, d2, d3] => { results := [.lit (.bool true)], args := [d1, d2, d3] }
  | _ => none }
def journalDamageRow : OpenClaim := { program := "ytmcedodejnnkmaa", sum := "29209ada14eb49c06b477af189c557ceb45b9d05ebfa7c1e519c0271fabf3f5c", func := "permitoffice/permitofficelaw32.JournalDamage", spec := "journalDamage", apart := false }
def JournalDamageSaid : Prop := journalDamageRow.holds Try.pinned (OpenSpec.ofChange journalDamageSpec)

/-- ITS FALSE NEIGHBOUR: 'it returns false'. Refute it at one input. -/
def journalDamageWrong : ChangeSpec := { name := "journalDamage", fn := fun _ => fun
  | [d1, d2, d3] => { results := [.lit (.bool false)], args := [d1, d2, d3] }
  | _ => none }
def JournalDamageWrongFalsely : Prop := journalDamageRow.holds Try.pinned (OpenSpec.ofChange journalDamageWrong)

/-- 'permitofficelaw32.JournalChain': WHATEVER THE INPUT: true; the input reads as it did. -/
def journalChainSpec : ChangeSpec := { name := "journalChain", fn := fun _ => fun
  | [d] => { results := [.lit (.bool true)], args := [d] }
  | _ => none }
def journalChainRow : OpenClaim := { program := "ytmcedodejnnkmaa", sum := "29209ada14eb49c06b477af189c557ceb45b9d05ebfa7c1e519c0271fabf3f5c", func := "permitoffice/permitofficelaw32.JournalChain", spec := "journalChain", apart := false }
def JournalChainSaid : Prop := journalChainRow.holds Try.pinned (OpenSpec.ofChange journalChainSpec)

/-- ITS FALSE NEIGHBOUR: 'it returns false'. Refute it at one input. -/
def journalChainWrong : ChangeSpec := { name := "journalChain", fn := fun _ => fun
  | [d] => { results := [.lit (.bool false)], args := [d] }
  | _ => none }
def JournalChainWrongFalsely : Prop := journalChainRow.holds Try.pinned (OpenSpec.ofChange journalChainWrong)

/-- 'permitofficelaw32.JournalBack': WHATEVER THE INPUT: true; the input reads as it did. -/
def journalBackSpec : ChangeSpec := { name := "journalBack", fn := fun _ => fun
  | [d] => { results := [.lit (.bool true)], args := [d] }
  | _ => none }
def journalBackRow : OpenClaim := { program := "ytmcedodejnnkmaa", sum := "29209ada14eb49c06b477af189c557ceb45b9d05ebfa7c1e519c0271fabf3f5c", func := "permitoffice/permitofficelaw32.JournalBack", spec := "journalBack", apart := false }
def JournalBackSaid : Prop := journalBackRow.holds Try.pinned (OpenSpec.ofChange journalBackSpec)

/-- ITS FALSE NEIGHBOUR: 'it returns false'. Refute it at one input. -/
def journalBackWrong : ChangeSpec := { name := "journalBack", fn := fun _ => fun
  | [d] => { results := [.lit (.bool false)], args := [d] }
  | _ => none }
def JournalBackWrongFalsely : Prop := journalBackRow.holds Try.pinned (OpenSpec.ofChange journalBackWrong)

/-- 'permitofficelaw32.JournalWhole': WHATEVER THE INPUT: true; the input reads as it did. -/
def journalWholeSpec : ChangeSpec := { name := "journalWhole", fn := fun _ => fun
  | [d1, d2, d3, d4] => { results := [.lit (.bool true)], args := [d1, d2, d3, d4] }
  | _ => none }
def journalWholeRow : OpenClaim := { program := "ytmcedodejnnkmaa", sum := "29209ada14eb49c06b477af189c557ceb45b9d05ebfa7c1e519c0271fabf3f5c", func := "permitoffice/permitofficelaw32.JournalWhole", spec := "journalWhole", apart := false }
def JournalWholeSaid : Prop := journalWholeRow.holds Try.pinned (OpenSpec.ofChange journalWholeSpec)

/-- ITS FALSE NEIGHBOUR: 'it returns false'. Refute it at one input. -/
def journalWholeWrong : ChangeSpec := { name := "journalWhole", fn := fun _ => fun
  | [d1, d2, d3, d4] => { results := [.lit (.bool false)], args := [d1, d2, d3, d4] }
  | _ => none }
def JournalWholeWrongFalsely : Prop := journalWholeRow.holds Try.pinned (OpenSpec.ofChange journalWholeWrong)

/-- 'permitofficelaw32.JournalTorn': WHATEVER THE INPUT: true; the input reads as it did. -/
def journalTornSpec : ChangeSpec := { name := "journalTorn", fn := fun _ => fun
  | [d1, d2] => { results := [.lit (.bool true)], args := [d1, d2] }
  | _ => none }
def journalTornRow : OpenClaim := { program := "ytmcedodejnnkmaa", sum := "29209ada14eb49c06b477af189c557ceb45b9d05ebfa7c1e519c0271fabf3f5c", func := "permitoffice/permitofficelaw32.JournalTorn", spec := "journalTorn", apart := false }
def JournalTornSaid : Prop := journalTornRow.holds Try.pinned (OpenSpec.ofChange journalTornSpec)

/-- ITS FALSE NEIGHBOUR: 'it returns false'. Refute it at one input. -/
def journalTornWrong : ChangeSpec := { name := "journalTorn", fn := fun _ => fun
  | [d1, d2] => { results := [.lit (.bool false)], args := [d1, d2] }
  | _ => none }
def JournalTornWrongFalsely : Prop := journalTornRow.holds Try.pinned (OpenSpec.ofChange journalTornWrong)

/-- 'permitofficelaw32.JournalExact': WHATEVER THE INPUT: true; the input reads as it did. -/
def journalExactSpec : ChangeSpec := { name := "journalExact", fn := fun _ => fun
  | [d1, d2, d3, d4, d5] => { results := [.lit (.bool true)], args := [d1, d2, d3, d4, d5] }
  | _ => none }
def journalExactRow : OpenClaim := { program := "ytmcedodejnnkmaa", sum := "29209ada14eb49c06b477af189c557ceb45b9d05ebfa7c1e519c0271fabf3f5c", func := "permitoffice/permitofficelaw32.JournalExact", spec := "journalExact", apart := false }
def JournalExactSaid : Prop := journalExactRow.holds Try.pinned (OpenSpec.ofChange journalExactSpec)

/-- ITS FALSE NEIGHBOUR: 'it returns false'. Refute it at one input. -/
def journalExactWrong : ChangeSpec := { name := "journalExact", fn := fun _ => fun
  | [d1, d2, d3, d4, d5] => { results := [.lit (.bool false)], args := [d1, d2, d3, d4, d5] }
  | _ => none }
def JournalExactWrongFalsely : Prop := journalExactRow.holds Try.pinned (OpenSpec.ofChange journalExactWrong)

/- THE SECOND FORM. 'bulk': how many values and letters a reading holds, each counted each time it is reached (what is shared counts as often as it is met; a slice's spare places count too). A statement '..UptoSaid' is the law's where the arguments, and the package variables that the reading takes, are together of bulk at most 1048576: NARROWER than '..Said'. Prove '..Said' where nothing that the law and all that it calls make is longer than what came in: it says more and counts as full. Else prove '..UptoSaid'. A law counts once. -/
mutual
def uptoBulk {H : Type} : DataW H → Nat
  | .lit (.string bytes) => bytes.length + 1
  | .lit _ => 1
  | .nil => 1
  | .ptr d => uptoBulk d + 1
  | .slice elems spare => uptoBulkAll elems + uptoBulkAll spare + 1
  | .agg parts => uptoBulkAll parts + 1
  | .iface _ d => uptoBulk d + 1
  | .map entries => uptoBulkEntries entries + 1
  | .held _ => 1
def uptoBulkAll {H : Type} : List (DataW H) → Nat
  | [] => 0
  | d :: r => uptoBulk d + uptoBulkAll r
def uptoBulkEntries {H : Type} : List (Lit × DataW H) → Nat
  | [] => 0
  | x :: r => uptoBulkEntry x + uptoBulkEntries r
def uptoBulkEntry {H : Type} : Lit × DataW H → Nat
  | (.string bytes, d) => bytes.length + uptoBulk d + 1
  | (_, d) => uptoBulk d + 1
 end
def uptoSmall : (H : Type) → List (DataW H) → Bool := fun _ ds => decide (uptoBulkAll ds ≤ 1048576)
def OpenSpec.upto (s : _root_.Go.ChangeSpec) : _root_.Go.OpenSpec := { _root_.Go.OpenSpec.ofChange s with cond := some uptoSmall }

/-- 'permitofficelaw32.JournalDamage', WHERE WHAT IT READS IS OF BULK AT MOST 1048576: true; the input reads as it did. -/
def journalDamageUptoRow : OpenClaim := { program := "ytmcedodejnnkmaa", sum := "29209ada14eb49c06b477af189c557ceb45b9d05ebfa7c1e519c0271fabf3f5c", func := "permitoffice/permitofficelaw32.JournalDamage", spec := "journalDamage", apart := false, narrowed := true }
def JournalDamageUptoSaid : Prop := journalDamageUptoRow.holds Try.pinned (OpenSpec.upto journalDamageSpec)

/-- 'permitofficelaw32.JournalChain', WHERE WHAT IT READS IS OF BULK AT MOST 1048576: true; the input reads as it did. -/
def journalChainUptoRow : OpenClaim := { program := "ytmcedodejnnkmaa", sum := "29209ada14eb49c06b477af189c557ceb45b9d05ebfa7c1e519c0271fabf3f5c", func := "permitoffice/permitofficelaw32.JournalChain", spec := "journalChain", apart := false, narrowed := true }
def JournalChainUptoSaid : Prop := journalChainUptoRow.holds Try.pinned (OpenSpec.upto journalChainSpec)

/-- 'permitofficelaw32.JournalBack', WHERE WHAT IT READS IS OF BULK AT MOST 1048576: true; the input reads as it did. -/
def journalBackUptoRow : OpenClaim := { program := "ytmcedodejnnkmaa", sum := "29209ada14eb49c06b477af189c557ceb45b9d05ebfa7c1e519c0271fabf3f5c", func := "permitoffice/permitofficelaw32.JournalBack", spec := "journalBack", apart := false, narrowed := true }
def JournalBackUptoSaid : Prop := journalBackUptoRow.holds Try.pinned (OpenSpec.upto journalBackSpec)

/-- 'permitofficelaw32.JournalWhole', WHERE WHAT IT READS IS OF BULK AT MOST 1048576: true; the input reads as it did. -/
def journalWholeUptoRow : OpenClaim := { program := "ytmcedodejnnkmaa", sum := "29209ada14eb49c06b477af189c557ceb45b9d05ebfa7c1e519c0271fabf3f5c", func := "permitoffice/permitofficelaw32.JournalWhole", spec := "journalWhole", apart := false, narrowed := true }
def JournalWholeUptoSaid : Prop := journalWholeUptoRow.holds Try.pinned (OpenSpec.upto journalWholeSpec)

/-- 'permitofficelaw32.JournalTorn', WHERE WHAT IT READS IS OF BULK AT MOST 1048576: true; the input reads as it did. -/
def journalTornUptoRow : OpenClaim := { program := "ytmcedodejnnkmaa", sum := "29209ada14eb49c06b477af189c557ceb45b9d05ebfa7c1e519c0271fabf3f5c", func := "permitoffice/permitofficelaw32.JournalTorn", spec := "journalTorn", apart := false, narrowed := true }
def JournalTornUptoSaid : Prop := journalTornUptoRow.holds Try.pinned (OpenSpec.upto journalTornSpec)

/-- 'permitofficelaw32.JournalExact', WHERE WHAT IT READS IS OF BULK AT MOST 1048576: true; the input reads as it did. -/
def journalExactUptoRow : OpenClaim := { program := "ytmcedodejnnkmaa", sum := "29209ada14eb49c06b477af189c557ceb45b9d05ebfa7c1e519c0271fabf3f5c", func := "permitoffice/permitofficelaw32.JournalExact", spec := "journalExact", apart := false, narrowed := true }
def JournalExactUptoSaid : Prop := journalExactUptoRow.holds Try.pinned (OpenSpec.upto journalExactSpec)

end Rows
end Go.Proofs.Ytmcedodejnnkmaa
