/-
  No cell of these rows narrows 'for every input' (looked for: loops, veiled, ifaces, maps, wideKeys, modest, calm, conditions, laid).
  DERIVED. THE GIVEN ROWS OF THIS SEAT. 6 by the template 'for every input the law returns true; each argument reads behind the call as it read before'; 0 by the template 'total and deterministic' (their statements: YtpommgohciigoaaTotals.lean).
  GIVEN WITH THE SEED: the statements are not yours to turn. If you find one false, say at which input.
  Laid BY PROGRAM, IN A SANDBOX (cutbox-rows.mjs): the forced cells as the released guide's own fill.sh prints them over the translation f7ae372d9090a9b2… (all of the seat's roots in one cut). By AI agents, Wed Nov 11 2026. No macro, syntax, notation, axiom, sorry.
-/
import Derived.Test.YtpommgohciigoaaChecked
import GoSem.Claim
import GoSem.ClaimJoined
import GoSem.ClaimMapViews
import Derived.JoinedTies
import Derived.KernelRfl
namespace Go.Proofs.Ytpommgohciigoaa
/- THE CELL 'sum', in the pinned program and in every row, IS THE sha256 OF THE DUMP (.gsa) THAT YtpommgohciigoaaProg.lean LOADS. Nothing in Lean hashes anything: it is a label: what it is worth is what the hold of that sum in a sandbox is worth. -/
noncomputable def Try.pinned : Pinned := { name := "ytpommgohciigoaa", sum := "f7ae372d9090a9b2016ed2c908cca6339531b083458b3597a7d49656886d439a", checked := Try.checked }
namespace Rows
def none {H : Type} : Left H := { results := [], args := [] }

/-- 'carrierlaw09.EventBack': WHATEVER THE INPUT: true; the input reads as it did. -/
def eventBackSpec : ChangeSpec := { name := "eventBack", fn := fun _ => fun
  | [d1, d2, d3, d4, d5, d6, d7] => { results := [.lit (.bool true)], args := [d1, d2, d3, d4, d5, d6, d7] }
  | _ => none }
def eventBackRow : OpenClaim := { program := "ytpommgohciigoaa", sum := "f7ae372d9090a9b2016ed2c908cca6339531b083458b3597a7d49656886d439a", func := "carrier/carrierlaw09.EventBack", spec := "eventBack", apart := false }
def EventBackSaid : Prop := eventBackRow.holds Try.pinned (OpenSpec.ofChange eventBackSpec)

/-- ITS FALSE NEIGHBOUR: 'it returns false'. Refute it at one input. -/
def eventBackWrong : ChangeSpec := { name := "eventBack", fn := fun _ => fun
  | [d1, d2, d3, d4, d5, d6, d7] => { results := [.lit (.bool false)], args := [d1, d2, d3, d4, d5, d6, d7] }
  | _ => none }
def EventBackWrongFalsely : Prop := eventBackRow.holds Try.pinned (OpenSpec.ofChange eventBackWrong)

/-- 'carrierlaw09.EventReads': WHATEVER THE INPUT: true; the input reads as it did. -/
def eventReadsSpec : ChangeSpec := { name := "eventReads", fn := fun _ => fun
  | [d] => { results := [.lit (.bool true)], args := [d] }
  | _ => none }
def eventReadsRow : OpenClaim := { program := "ytpommgohciigoaa", sum := "f7ae372d9090a9b2016ed2c908cca6339531b083458b3597a7d49656886d439a", func := "carrier/carrierlaw09.EventReads", spec := "eventReads", apart := false }
def EventReadsSaid : Prop := eventReadsRow.holds Try.pinned (OpenSpec.ofChange eventReadsSpec)

/-- ITS FALSE NEIGHBOUR: 'it returns false'. Refute it at one input. -/
def eventReadsWrong : ChangeSpec := { name := "eventReads", fn := fun _ => fun
  | [d] => { results := [.lit (.bool false)], args := [d] }
  | _ => none }
def EventReadsWrongFalsely : Prop := eventReadsRow.holds Try.pinned (OpenSpec.ofChange eventReadsWrong)

/-- 'carrierlaw09.EventTurned': WHATEVER THE INPUT: true; the input reads as it did. -/
def eventTurnedSpec : ChangeSpec := { name := "eventTurned", fn := fun _ => fun
  | [d1, d2, d3, d4, d5, d6, d7, d8] => { results := [.lit (.bool true)], args := [d1, d2, d3, d4, d5, d6, d7, d8] }
  | _ => none }
def eventTurnedRow : OpenClaim := { program := "ytpommgohciigoaa", sum := "f7ae372d9090a9b2016ed2c908cca6339531b083458b3597a7d49656886d439a", func := "carrier/carrierlaw09.EventTurned", spec := "eventTurned", apart := false }
def EventTurnedSaid : Prop := eventTurnedRow.holds Try.pinned (OpenSpec.ofChange eventTurnedSpec)

/-- ITS FALSE NEIGHBOUR: 'it returns false'. Refute it at one input. -/
def eventTurnedWrong : ChangeSpec := { name := "eventTurned", fn := fun _ => fun
  | [d1, d2, d3, d4, d5, d6, d7, d8] => { results := [.lit (.bool false)], args := [d1, d2, d3, d4, d5, d6, d7, d8] }
  | _ => none }
def EventTurnedWrongFalsely : Prop := eventTurnedRow.holds Try.pinned (OpenSpec.ofChange eventTurnedWrong)

/-- 'carrierlaw09.EventRight': WHATEVER THE INPUT: true; the input reads as it did. -/
def eventRightSpec : ChangeSpec := { name := "eventRight", fn := fun _ => fun
  | [d1, d2, d3, d4, d5, d6, d7] => { results := [.lit (.bool true)], args := [d1, d2, d3, d4, d5, d6, d7] }
  | _ => none }
def eventRightRow : OpenClaim := { program := "ytpommgohciigoaa", sum := "f7ae372d9090a9b2016ed2c908cca6339531b083458b3597a7d49656886d439a", func := "carrier/carrierlaw09.EventRight", spec := "eventRight", apart := false }
def EventRightSaid : Prop := eventRightRow.holds Try.pinned (OpenSpec.ofChange eventRightSpec)

/-- ITS FALSE NEIGHBOUR: 'it returns false'. Refute it at one input. -/
def eventRightWrong : ChangeSpec := { name := "eventRight", fn := fun _ => fun
  | [d1, d2, d3, d4, d5, d6, d7] => { results := [.lit (.bool false)], args := [d1, d2, d3, d4, d5, d6, d7] }
  | _ => none }
def EventRightWrongFalsely : Prop := eventRightRow.holds Try.pinned (OpenSpec.ofChange eventRightWrong)

/-- 'carrierlaw09.EventWide': WHATEVER THE INPUT: true; the input reads as it did. -/
def eventWideSpec : ChangeSpec := { name := "eventWide", fn := fun _ => fun
  | [d1, d2, d3, d4, d5] => { results := [.lit (.bool true)], args := [d1, d2, d3, d4, d5] }
  | _ => none }
def eventWideRow : OpenClaim := { program := "ytpommgohciigoaa", sum := "f7ae372d9090a9b2016ed2c908cca6339531b083458b3597a7d49656886d439a", func := "carrier/carrierlaw09.EventWide", spec := "eventWide", apart := false }
def EventWideSaid : Prop := eventWideRow.holds Try.pinned (OpenSpec.ofChange eventWideSpec)

/-- ITS FALSE NEIGHBOUR: 'it returns false'. Refute it at one input. -/
def eventWideWrong : ChangeSpec := { name := "eventWide", fn := fun _ => fun
  | [d1, d2, d3, d4, d5] => { results := [.lit (.bool false)], args := [d1, d2, d3, d4, d5] }
  | _ => none }
def EventWideWrongFalsely : Prop := eventWideRow.holds Try.pinned (OpenSpec.ofChange eventWideWrong)

/-- 'carrierlaw09.EventDue': WHATEVER THE INPUT: true; the input reads as it did. -/
def eventDueSpec : ChangeSpec := { name := "eventDue", fn := fun _ => fun
  | [d1, d2] => { results := [.lit (.bool true)], args := [d1, d2] }
  | _ => none }
def eventDueRow : OpenClaim := { program := "ytpommgohciigoaa", sum := "f7ae372d9090a9b2016ed2c908cca6339531b083458b3597a7d49656886d439a", func := "carrier/carrierlaw09.EventDue", spec := "eventDue", apart := false }
def EventDueSaid : Prop := eventDueRow.holds Try.pinned (OpenSpec.ofChange eventDueSpec)

/-- ITS FALSE NEIGHBOUR: 'it returns false'. Refute it at one input. -/
def eventDueWrong : ChangeSpec := { name := "eventDue", fn := fun _ => fun
  | [d1, d2] => { results := [.lit (.bool false)], args := [d1, d2] }
  | _ => none }
def EventDueWrongFalsely : Prop := eventDueRow.holds Try.pinned (OpenSpec.ofChange eventDueWrong)

/- THE SECOND FORM. 'bulk': how many values and letters a reading holds, each counted each time it is reached (what is shared counts as often as it is met; a slice's spare places count too). A statement '..UptoSaid' is the law's where the arguments, and the package variables that the reading takes, are together of bulk at most 1048576: NARROWER than '..Said'. Prove '..Said' where nothing that the law and all that it calls make is longer than what came in: it says more and counts as full. Else prove '..UptoSaid'. A law counts once. -/
mutual
def uptoBulk {H : Type} : DataW H → Nat
  | .lit (.string bytes) => bytes.length + 1
  | .lit _ => 1
  | .nil => 1
  | .ptr d => uptoBulk d + 1
  | .slice elems spare => uptoBulkAll elems + uptoBulkAll spare + 1
  | .agg parts => uptoBulkAll parts + 1
  | .iface _ d => uptoBulk d + 1
  | .map entries => uptoBulkEntries entries + 1
  | .held _ => 1
def uptoBulkAll {H : Type} : List (DataW H) → Nat
  | [] => 0
  | d :: r => uptoBulk d + uptoBulkAll r
def uptoBulkEntries {H : Type} : List (Lit × DataW H) → Nat
  | [] => 0
  | x :: r => uptoBulkEntry x + uptoBulkEntries r
def uptoBulkEntry {H : Type} : Lit × DataW H → Nat
  | (.string bytes, d) => bytes.length + uptoBulk d + 1
  | (_, d) => uptoBulk d + 1
 end
def uptoSmall : (H : Type) → List (DataW H) → Bool := fun _ ds => decide (uptoBulkAll ds ≤ 1048576)
def OpenSpec.upto (s : _root_.Go.ChangeSpec) : _root_.Go.OpenSpec := { _root_.Go.OpenSpec.ofChange s with cond := some uptoSmall }

/-- 'carrierlaw09.EventBack', WHERE WHAT IT READS IS OF BULK AT MOST 1048576: true; the input reads as it did. -/
def eventBackUptoRow : OpenClaim := { program := "ytpommgohciigoaa", sum := "f7ae372d9090a9b2016ed2c908cca6339531b083458b3597a7d49656886d439a", func := "carrier/carrierlaw09.EventBack", spec := "eventBack", apart := false, narrowed := true }
def EventBackUptoSaid : Prop := eventBackUptoRow.holds Try.pinned (OpenSpec.upto eventBackSpec)

/-- 'carrierlaw09.EventReads', WHERE WHAT IT READS IS OF BULK AT MOST 1048576: true; the input reads as it did. -/
def eventReadsUptoRow : OpenClaim := { program := "ytpommgohciigoaa", sum := "f7ae372d9090a9b2016ed2c908cca6339531b083458b3597a7d49656886d439a", func := "carrier/carrierlaw09.EventReads", spec := "eventReads", apart := false, narrowed := true }
def EventReadsUptoSaid : Prop := eventReadsUptoRow.holds Try.pinned (OpenSpec.upto eventReadsSpec)

/-- 'carrierlaw09.EventTurned', WHERE WHAT IT READS IS OF BULK AT MOST 1048576: true; the input reads as it did. -/
def eventTurnedUptoRow : OpenClaim := { program := "ytpommgohciigoaa", sum := "f7ae372d9090a9b2016ed2c908cca6339531b083458b3597a7d49656886d439a", func := "carrier/carrierlaw09.EventTurned", spec := "eventTurned", apart := false, narrowed := true }
def EventTurnedUptoSaid : Prop := eventTurnedUptoRow.holds Try.pinned (OpenSpec.upto eventTurnedSpec)

/-- 'carrierlaw09.EventRight', WHERE WHAT IT READS IS OF BULK AT MOST 1048576: true; the input reads as it did. -/
def eventRightUptoRow : OpenClaim := { program := "ytpommgohciigoaa", sum := "f7ae372d9090a9b2016ed2c908cca6339531b083458b3597a7d49656886d439a", func := "carrier/carrierlaw09.EventRight", spec := "eventRight", apart := false, narrowed := true }
def EventRightUptoSaid : Prop := eventRightUptoRow.holds Try.pinned (OpenSpec.upto eventRightSpec)

/-- 'carrierlaw09.EventWide', WHERE WHAT IT READS IS OF BULK AT MOST 1048576: true; the input reads as it did. -/
def eventWideUptoRow : OpenClaim := { program := "ytpommgohciigoaa", sum := "f7ae372d9090a9b2016ed2c908cca6339531b083458b3597a7d49656886d439a", func := "carrier/carrierlaw09.EventWide", spec := "eventWide", apart := false, narrowed := true }
def EventWideUptoSaid : Prop := eventWideUptoRow.holds Try.pinned (OpenSpec.upto eventWideSpec)

/-- 'carrierlaw09.EventDue', WHERE WHAT IT READS IS OF BULK AT MOST 1048576: true; the input reads as it did. -/
def eventDueUptoRow : OpenClaim := { program := "ytpommgohciigoaa", sum := "f7ae372d9090a9b2016ed2c908cca6339531b083458b3597a7d49656886d439a", func := "carrier/carrierlaw09.EventDue", spec := "eventDue", apart := false, narrowed := true }
def EventDueUptoSaid : Prop := eventDueUptoRow.holds Try.pinned (OpenSpec.upto eventDueSpec)

end Rows
end Go.Proofs.Ytpommgohciigoaa
