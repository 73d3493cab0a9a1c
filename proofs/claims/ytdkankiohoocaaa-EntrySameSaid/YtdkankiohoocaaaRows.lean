/-
  No cell of these rows narrows 'for every input' (looked for: loops, veiled, ifaces, maps, wideKeys, modest, calm, conditions, laid).
  DERIVED. THE GIVEN ROWS OF THIS SEAT. 6 by the template 'for every input the law returns true; each argument reads behind the call as it read before'; 0 by the template 'total and deterministic' (their statements: YtdkankiohoocaaaTotals.lean).
  GIVEN WITH THE SEED: the statements are not yours to turn. If you find one false, say at which input.
  Laid BY PROGRAM, IN A SANDBOX (cutbox-rows.mjs): the forced cells as the released guide's own fill.sh prints them over the translation b061f2ff0f18d743… (all of the seat's roots in one cut). By AI agents, Wed Nov 11 2026. No macro, syntax, notation, axiom, sorry.
-/
import Derived.Test.YtdkankiohoocaaaChecked
import GoSem.Claim
import GoSem.ClaimJoined
import GoSem.ClaimMapViews
import Derived.JoinedTies
import Derived.KernelRfl
namespace Go.Proofs.Ytdkankiohoocaaa
/- THE CELL 'sum', in the pinned program and in every row, IS THE sha256 OF THE DUMP (.gsa) THAT YtdkankiohoocaaaProg.lean LOADS. Nothing in Lean hashes anything: it is a label: what it is worth is what the hold of that sum in a sandbox is worth. -/
noncomputable def Try.pinned : Pinned := { name := "ytdkankiohoocaaa", sum := "b061f2ff0f18d743897f600bba024f3d74e931c98b9f7d0d8603f5885e8333f4", checked := Try.checked }
namespace Rows
def none {H : Type} : Left H := { results := [], args := [] }

/-- 'carrierlaw16.EntrySame': WHATEVER THE INPUT: true; the input reads as it did. -/
def entrySameSpec : ChangeSpec := { name := "entrySame", fn := fun _ => fun
  | [d1, d2, d3] => { results := [.lit (.bool true)], args := [d1, d2, d3] }
  | _ => none }
def entrySameRow : OpenClaim := { program := "ytdkankiohoocaaa", sum := "b061f2ff0f18d743897f600bba024f3d74e931c98b9f7d0d8603f5885e8333f4", func := "carrier/carrierlaw16.EntrySame", spec := "entrySame", unfollowed := true, recurses := true, apart := false }
def EntrySameSaid : Prop := entrySameRow.holds Try.pinned (OpenSpec.ofChange entrySameSpec)

/-- ITS FALSE NEIGHBOUR: 'it returns false'. Refute it at one input. -/
def entrySameWrong : ChangeSpec := { name := "entrySame", fn := fun _ => fun
  | [d1, d2, d3] => { results := [.lit (.bool false)], args := [d1, d2, d3] }
  | _ => none }
def EntrySameWrongFalsely : Prop := entrySameRow.holds Try.pinned (OpenSpec.ofChange entrySameWrong)

/-- 'carrierlaw16.EntryKinds': WHATEVER THE INPUT: true; the input reads as it did. -/
def entryKindsSpec : ChangeSpec := { name := "entryKinds", fn := fun _ => fun
  | [d1, d2] => { results := [.lit (.bool true)], args := [d1, d2] }
  | _ => none }
def entryKindsRow : OpenClaim := { program := "ytdkankiohoocaaa", sum := "b061f2ff0f18d743897f600bba024f3d74e931c98b9f7d0d8603f5885e8333f4", func := "carrier/carrierlaw16.EntryKinds", spec := "entryKinds", unfollowed := true, recurses := true, apart := false }
def EntryKindsSaid : Prop := entryKindsRow.holds Try.pinned (OpenSpec.ofChange entryKindsSpec)

/-- ITS FALSE NEIGHBOUR: 'it returns false'. Refute it at one input. -/
def entryKindsWrong : ChangeSpec := { name := "entryKinds", fn := fun _ => fun
  | [d1, d2] => { results := [.lit (.bool false)], args := [d1, d2] }
  | _ => none }
def EntryKindsWrongFalsely : Prop := entryKindsRow.holds Try.pinned (OpenSpec.ofChange entryKindsWrong)

/-- 'carrierlaw16.EntryBack': WHATEVER THE INPUT: true; the input reads as it did. -/
def entryBackSpec : ChangeSpec := { name := "entryBack", fn := fun _ => fun
  | [d] => { results := [.lit (.bool true)], args := [d] }
  | _ => none }
def entryBackRow : OpenClaim := { program := "ytdkankiohoocaaa", sum := "b061f2ff0f18d743897f600bba024f3d74e931c98b9f7d0d8603f5885e8333f4", func := "carrier/carrierlaw16.EntryBack", spec := "entryBack", unfollowed := true, recurses := true, apart := false }
def EntryBackSaid : Prop := entryBackRow.holds Try.pinned (OpenSpec.ofChange entryBackSpec)

/-- ITS FALSE NEIGHBOUR: 'it returns false'. Refute it at one input. -/
def entryBackWrong : ChangeSpec := { name := "entryBack", fn := fun _ => fun
  | [d] => { results := [.lit (.bool false)], args := [d] }
  | _ => none }
def EntryBackWrongFalsely : Prop := entryBackRow.holds Try.pinned (OpenSpec.ofChange entryBackWrong)

/-- 'carrierlaw16.EntryReads': WHATEVER THE INPUT: true; the input reads as it did. -/
def entryReadsSpec : ChangeSpec := { name := "entryReads", fn := fun _ => fun
  | [d1, d2] => { results := [.lit (.bool true)], args := [d1, d2] }
  | _ => none }
def entryReadsRow : OpenClaim := { program := "ytdkankiohoocaaa", sum := "b061f2ff0f18d743897f600bba024f3d74e931c98b9f7d0d8603f5885e8333f4", func := "carrier/carrierlaw16.EntryReads", spec := "entryReads", unfollowed := true, recurses := true, apart := false }
def EntryReadsSaid : Prop := entryReadsRow.holds Try.pinned (OpenSpec.ofChange entryReadsSpec)

/-- ITS FALSE NEIGHBOUR: 'it returns false'. Refute it at one input. -/
def entryReadsWrong : ChangeSpec := { name := "entryReads", fn := fun _ => fun
  | [d1, d2] => { results := [.lit (.bool false)], args := [d1, d2] }
  | _ => none }
def EntryReadsWrongFalsely : Prop := entryReadsRow.holds Try.pinned (OpenSpec.ofChange entryReadsWrong)

/-- 'carrierlaw16.EntryTurned': WHATEVER THE INPUT: true; the input reads as it did. -/
def entryTurnedSpec : ChangeSpec := { name := "entryTurned", fn := fun _ => fun
  | [d1, d2, d3, d4, d5] => { results := [.lit (.bool true)], args := [d1, d2, d3, d4, d5] }
  | _ => none }
def entryTurnedRow : OpenClaim := { program := "ytdkankiohoocaaa", sum := "b061f2ff0f18d743897f600bba024f3d74e931c98b9f7d0d8603f5885e8333f4", func := "carrier/carrierlaw16.EntryTurned", spec := "entryTurned", unfollowed := true, recurses := true, apart := false }
def EntryTurnedSaid : Prop := entryTurnedRow.holds Try.pinned (OpenSpec.ofChange entryTurnedSpec)

/-- ITS FALSE NEIGHBOUR: 'it returns false'. Refute it at one input. -/
def entryTurnedWrong : ChangeSpec := { name := "entryTurned", fn := fun _ => fun
  | [d1, d2, d3, d4, d5] => { results := [.lit (.bool false)], args := [d1, d2, d3, d4, d5] }
  | _ => none }
def EntryTurnedWrongFalsely : Prop := entryTurnedRow.holds Try.pinned (OpenSpec.ofChange entryTurnedWrong)

/-- 'carrierlaw16.EntryMany': WHATEVER THE INPUT: true; the input reads as it did. -/
def entryManySpec : ChangeSpec := { name := "entryMany", fn := fun _ => fun
  | [d1, d2] => { results := [.lit (.bool true)], args := [d1, d2] }
  | _ => none }
def entryManyRow : OpenClaim := { program := "ytdkankiohoocaaa", sum := "b061f2ff0f18d743897f600bba024f3d74e931c98b9f7d0d8603f5885e8333f4", func := "carrier/carrierlaw16.EntryMany", spec := "entryMany", unfollowed := true, recurses := true, apart := false }
def EntryManySaid : Prop := entryManyRow.holds Try.pinned (OpenSpec.ofChange entryManySpec)

/-- ITS FALSE NEIGHBOUR: 'it returns false'. Refute it at one input. -/
def entryManyWrong : ChangeSpec := { name := "entryMany", fn := fun _ => fun
  | [d1, d2] => { results := [.lit (.bool false)], args := [d1, d2] }
  | _ => none }
def EntryManyWrongFalsely : Prop := entryManyRow.holds Try.pinned (OpenSpec.ofChange entryManyWrong)

/- THE SECOND FORM. 'bulk': how many values and letters a reading holds, each counted each time it is reached (what is shared counts as often as it is met; a slice's spare places count too). A statement '..UptoSaid' is the law's where the arguments, and the package variables that the reading takes, are together of bulk at most 1048576: NARROWER than '..Said'. Prove '..Said' where nothing that the law and all that it calls make is longer than what came in: it says more and counts as full. Else prove '..UptoSaid'. A law counts once. -/
mutual
def uptoBulk {H : Type} : DataW H → Nat
  | .lit (.string bytes) => bytes.length + 1
  | .lit _ => 1
  | .nil => 1
  | .ptr d => uptoBulk d + 1
  | .slice elems spare => uptoBulkAll elems + uptoBulkAll spare + 1
  | .agg parts => uptoBulkAll parts + 1
  | .iface _ d => uptoBulk d + 1
  | .map entries => uptoBulkEntries entries + 1
  | .held _ => 1
def uptoBulkAll {H : Type} : List (DataW H) → Nat
  | [] => 0
  | d :: r => uptoBulk d + uptoBulkAll r
def uptoBulkEntries {H : Type} : List (Lit × DataW H) → Nat
  | [] => 0
  | x :: r => uptoBulkEntry x + uptoBulkEntries r
def uptoBulkEntry {H : Type} : Lit × DataW H → Nat
  | (.string bytes, d) => bytes.length + uptoBulk d + 1
  | (_, d) => uptoBulk d + 1
 end
def uptoSmall : (H : Type) → List (DataW H) → Bool := fun _ ds => decide (uptoBulkAll ds ≤ 1048576)
def OpenSpec.upto (s : _root_.Go.ChangeSpec) : _root_.Go.OpenSpec := { _root_.Go.OpenSpec.ofChange s with cond := some uptoSmall }

/-- 'carrierlaw16.EntrySame', WHERE WHAT IT READS IS OF BULK AT MOST 1048576: true; the input reads as it did. -/
def entrySameUptoRow : OpenClaim := { program := "ytdkankiohoocaaa", sum := "b061f2ff0f18d743897f600bba024f3d74e931c98b9f7d0d8603f5885e8333f4", func := "carrier/carrierlaw16.EntrySame", spec := "entrySame", unfollowed := true, recurses := true, apart := false, narrowed := true }
def EntrySameUptoSaid : Prop := entrySameUptoRow.holds Try.pinned (OpenSpec.upto entrySameSpec)

/-- 'carrierlaw16.EntryKinds', WHERE WHAT IT READS IS OF BULK AT MOST 1048576: true; the input reads as it did. -/
def entryKindsUptoRow : OpenClaim := { program := "ytdkankiohoocaaa", sum := "b061f2ff0f18d743897f600bba024f3d74e931c98b9f7d0d8603f5885e8333f4", func := "carrier/carrierlaw16.EntryKinds", spec := "entryKinds", unfollowed := true, recurses := true, apart := false, narrowed := true }
def EntryKindsUptoSaid : Prop := entryKindsUptoRow.holds Try.pinned (OpenSpec.upto entryKindsSpec)

/-- 'carrierlaw16.EntryBack', WHERE WHAT IT READS IS OF BULK AT MOST 1048576: true; the input reads as it did. -/
def entryBackUptoRow : OpenClaim := { program := "ytdkankiohoocaaa", sum := "b061f2ff0f18d743897f600bba024f3d74e931c98b9f7d0d8603f5885e8333f4", func := "carrier/carrierlaw16.EntryBack", spec := "entryBack", unfollowed := true, recurses := true, apart := false, narrowed := true }
def EntryBackUptoSaid : Prop := entryBackUptoRow.holds Try.pinned (OpenSpec.upto entryBackSpec)

/-- 'carrierlaw16.EntryReads', WHERE WHAT IT READS IS OF BULK AT MOST 1048576: true; the input reads as it did. -/
def entryReadsUptoRow : OpenClaim := { program := "ytdkankiohoocaaa", sum := "b061f2ff0f18d743897f600bba024f3d74e931c98b9f7d0d8603f5885e8333f4", func := "carrier/carrierlaw16.EntryReads", spec := "entryReads", unfollowed := true, recurses := true, apart := false, narrowed := true }
def EntryReadsUptoSaid : Prop := entryReadsUptoRow.holds Try.pinned (OpenSpec.upto entryReadsSpec)

/-- 'carrierlaw16.EntryTurned', WHERE WHAT IT READS IS OF BULK AT MOST 1048576: true; the input reads as it did. -/
def entryTurnedUptoRow : OpenClaim := { program := "ytdkankiohoocaaa", sum := "b061f2ff0f18d743897f600bba024f3d74e931c98b9f7d0d8603f5885e8333f4", func := "carrier/carrierlaw16.EntryTurned", spec := "entryTurned", unfollowed := true, recurses := true, apart := false, narrowed := true }
def EntryTurnedUptoSaid : Prop := entryTurnedUptoRow.holds Try.pinned (OpenSpec.upto entryTurnedSpec)

/-- 'carrierlaw16.EntryMany', WHERE WHAT IT READS IS OF BULK AT MOST 1048576: true; the input reads as it did. -/
def entryManyUptoRow : OpenClaim := { program := "ytdkankiohoocaaa", sum := "b061f2ff0f18d743897f600bba024f3d74e931c98b9f7d0d8603f5885e8333f4", func := "carrier/carrierlaw16.EntryMany", spec := "entryMany", unfollowed := true, recurses := true, apart := false, narrowed := true }
def EntryManyUptoSaid : Prop := entryManyUptoRow.holds Try.pinned (OpenSpec.upto entryManySpec)

end Rows
end Go.Proofs.Ytdkankiohoocaaa
