/-
  No cell of these rows narrows 'for every input' (looked for: loops, veiled, ifaces, maps, wideKeys, modest, calm, conditions, laid).
  DERIVED. THE GIVEN ROWS OF THIS SEAT. 6 by the template 'for every input the law returns true; each argument reads behind the call as it read before'; 0 by the template 'total and deterministic' (their statements: YtahfnbgbjphngaaTotals.lean).
  GIVEN WITH THE SEED: the statements are not yours to turn. If you find one false, say at which input.
  Laid BY PROGRAM, IN A SANDBOX (cutbox-rows.mjs): the forced cells as the released guide's own fill.sh prints them over the translation 154af5bb074c1d52… (all of the seat's roots in one cut). By AI agents, Wed Nov 11 2026. No macro, syntax, notation, axiom, sorry.
-/
import Derived.Test.YtahfnbgbjphngaaChecked
import GoSem.Claim
import GoSem.ClaimJoined
import GoSem.ClaimMapViews
import Derived.JoinedTies
import Derived.KernelRfl
namespace Go.Proofs.Ytahfnbgbjphngaa
/- THE CELL 'sum', in the pinned program and in every row, IS THE sha256 OF THE DUMP (.gsa) THAT YtahfnbgbjphngaaProg.lean LOADS. Nothing in Lean hashes anything: it is a label: what it is worth is what the hold of that sum in a sandbox is worth. -/
noncomputable def Try.pinned : Pinned := { name := "ytahfnbgbjphngaa", sum := "154af5bb074c1d522281536813ecbcb747f5d03cd036499bb6203eb7c42061fe", checked := Try.checked }
namespace Rows
def none {H : Type} : Left H := { results := [], args := [] }

/-- 'carrierlaw02.CodeOne': WHATEVER THE INPUT: true; the input reads as it did. -/
def codeOneSpec : ChangeSpec := { name := "codeOne", fn := fun _ => fun
  | [d1, d2] => { results := [.lit (.bool true)], args := [d1, d2] }
  | _ => none }
def codeOneRow : OpenClaim := { program := "ytahfnbgbjphngaa", sum := "154af5bb074c1d522281536813ecbcb747f5d03cd036499bb6203eb7c42061fe", func := "carrier/carrierlaw02.CodeOne", spec := "codeOne", apart := false }
def CodeOneSaid : Prop := codeOneRow.holds Try.pinned (OpenSpec.ofChange codeOneSpec)

/-- ITS FALSE NEIGHBOUR: 'it returns false'. Refute it at one input. -/
def codeOneWrong : ChangeSpec := { name := "codeOne", fn := fun _ => fun
  | [d1, d2] => { results := [.lit (.bool false)], args := [d1, d2] }
  | _ => none }
def CodeOneWrongFalsely : Prop := codeOneRow.holds Try.pinned (OpenSpec.ofChange codeOneWrong)

/-- 'carrierlaw02.CodeOwn': WHATEVER THE INPUT: true; the input reads as it did. -/
def codeOwnSpec : ChangeSpec := { name := "codeOwn", fn := fun _ => fun
  | [d1, d2] => { results := [.lit (.bool true)], args := [d1, d2] }
  | _ => none }
def codeOwnRow : OpenClaim := { program := "ytahfnbgbjphngaa", sum := "154af5bb074c1d522281536813ecbcb747f5d03cd036499bb6203eb7c42061fe", func := "carrier/carrierlaw02.CodeOwn", spec := "codeOwn", apart := false }
def CodeOwnSaid : Prop := codeOwnRow.holds Try.pinned (OpenSpec.ofChange codeOwnSpec)

/-- ITS FALSE NEIGHBOUR: 'it returns false'. Refute it at one input. -/
def codeOwnWrong : ChangeSpec := { name := "codeOwn", fn := fun _ => fun
  | [d1, d2] => { results := [.lit (.bool false)], args := [d1, d2] }
  | _ => none }
def CodeOwnWrongFalsely : Prop := codeOwnRow.holds Try.pinned (OpenSpec.ofChange codeOwnWrong)

/-- 'carrierlaw02.CodeTexts': WHATEVER THE INPUT: true; the input reads as it did. -/
def codeTextsSpec : ChangeSpec := { name := "codeTexts", fn := fun _ => fun
  | [d1, d2, d3] => { results := [.lit (.bool true)], args := [d1, d2, d3] }
  | _ => none }
def codeTextsRow : OpenClaim := { program := "ytahfnbgbjphngaa", sum := "154af5bb074c1d522281536813ecbcb747f5d03cd036499bb6203eb7c42061fe", func := "carrier/carrierlaw02.CodeTexts", spec := "codeTexts", apart := false }
def CodeTextsSaid : Prop := codeTextsRow.holds Try.pinned (OpenSpec.ofChange codeTextsSpec)

/-- ITS FALSE NEIGHBOUR: 'it returns false'. Refute it at one input. -/
def codeTextsWrong : ChangeSpec := { name := "codeTexts", fn := fun _ => fun
  | [d1, d2, d3] => { results := [.lit (.bool false)], args := [d1, d2, d3] }
  | _ => none }
def CodeTextsWrongFalsely : Prop := codeTextsRow.holds Try.pinned (OpenSpec.ofChange codeTextsWrong)

/-- 'carrierlaw02.CodeReads': WHATEVER THE INPUT: true; the input reads as it did. -/
def codeReadsSpec : ChangeSpec := { name := "codeReads", fn := fun _ => fun
  | [d1, d2, d3] => { results := [.lit (.bool true)], args := [d1, d2, d3] }
  | _ => none }
def codeReadsRow : OpenClaim := { program := "ytahfnbgbjphngaa", sum := "154af5bb074c1d522281536813ecbcb747f5d03cd036499bb6203eb7c42061fe", func := "carrier/carrierlaw02.CodeReads", spec := "codeReads", apart := false }
def CodeReadsSaid : Prop := codeReadsRow.holds Try.pinned (OpenSpec.ofChange codeReadsSpec)

/-- ITS FALSE NEIGHBOUR: 'it returns false'. Refute it at one input. -/
def codeReadsWrong : ChangeSpec := { name := "codeReads", fn := fun _ => fun
  | [d1, d2, d3] => { results := [.lit (.bool false)], args := [d1, d2, d3] }
  | _ => none }
def CodeReadsWrongFalsely : Prop := codeReadsRow.holds Try.pinned (OpenSpec.ofChange codeReadsWrong)

/-- 'carrierlaw02.CodeBack': WHATEVER THE INPUT: true; the input reads as it did. -/
def codeBackSpec : ChangeSpec := { name := "codeBack", fn := fun _ => fun
  | [d] => { results := [.lit (.bool true)], args := [d] }
  | _ => none }
def codeBackRow : OpenClaim := { program := "ytahfnbgbjphngaa", sum := "154af5bb074c1d522281536813ecbcb747f5d03cd036499bb6203eb7c42061fe", func := "carrier/carrierlaw02.CodeBack", spec := "codeBack", apart := false }
def CodeBackSaid : Prop := codeBackRow.holds Try.pinned (OpenSpec.ofChange codeBackSpec)

/-- ITS FALSE NEIGHBOUR: 'it returns false'. Refute it at one input. -/
def codeBackWrong : ChangeSpec := { name := "codeBack", fn := fun _ => fun
  | [d] => { results := [.lit (.bool false)], args := [d] }
  | _ => none }
def CodeBackWrongFalsely : Prop := codeBackRow.holds Try.pinned (OpenSpec.ofChange codeBackWrong)

/-- 'carrierlaw02.CodeNil': WHATEVER THE INPUT: true; the input reads as it did. -/
def codeNilSpec : ChangeSpec := { name := "codeNil", fn := fun _ => fun
  | [d1, d2] => { results := [.lit (.bool true)], args := [d1, d2] }
  | _ => none }
def codeNilRow : OpenClaim := { program := "ytahfnbgbjphngaa", sum := "154af5bb074c1d522281536813ecbcb747f5d03cd036499bb6203eb7c42061fe", func := "carrier/carrierlaw02.CodeNil", spec := "codeNil", apart := false }
def CodeNilSaid : Prop := codeNilRow.holds Try.pinned (OpenSpec.ofChange codeNilSpec)

/-- ITS FALSE NEIGHBOUR: 'it returns false'. Refute it at one input. -/
def codeNilWrong : ChangeSpec := { name := "codeNil", fn := fun _ => fun
  | [d1, d2] => { results := [.lit (.bool false)], args := [d1, d2] }
  | _ => none }
def CodeNilWrongFalsely : Prop := codeNilRow.holds Try.pinned (OpenSpec.ofChange codeNilWrong)

/- THE SECOND FORM. 'bulk': how many values and letters a reading holds, each counted each time it is reached (what is shared counts as often as it is met; a slice's spare places count too). A statement '..UptoSaid' is the law's where the arguments, and the package variables that the reading takes, are together of bulk at most 1048576: NARROWER than '..Said'. Prove '..Said' where nothing that the law and all that it calls make is longer than what came in: it says more and counts as full. Else prove '..UptoSaid'. A law counts once. -/
mutual
def uptoBulk {H : Type} : DataW H → Nat
  | .lit (.string bytes) => bytes.length + 1
  | .lit _ => 1
  | .nil => 1
  | .ptr d => uptoBulk d + 1
  | .slice elems spare => uptoBulkAll elems + uptoBulkAll spare + 1
  | .agg parts => uptoBulkAll parts + 1
  | .iface _ d => uptoBulk d + 1
  | .map entries => uptoBulkEntries entries + 1
  | .held _ => 1
def uptoBulkAll {H : Type} : List (DataW H) → Nat
  | [] => 0
  | d :: r => uptoBulk d + uptoBulkAll r
def uptoBulkEntries {H : Type} : List (Lit × DataW H) → Nat
  | [] => 0
  | x :: r => uptoBulkEntry x + uptoBulkEntries r
def uptoBulkEntry {H : Type} : Lit × DataW H → Nat
  | (.string bytes, d) => bytes.length + uptoBulk d + 1
  | (_, d) => uptoBulk d + 1
 end
def uptoSmall : (H : Type) → List (DataW H) → Bool := fun _ ds => decide (uptoBulkAll ds ≤ 1048576)
def OpenSpec.upto (s : _root_.Go.ChangeSpec) : _root_.Go.OpenSpec := { _root_.Go.OpenSpec.ofChange s with cond := some uptoSmall }

/-- 'carrierlaw02.CodeOne', WHERE WHAT IT READS IS OF BULK AT MOST 1048576: true; the input reads as it did. -/
def codeOneUptoRow : OpenClaim := { program := "ytahfnbgbjphngaa", sum := "154af5bb074c1d522281536813ecbcb747f5d03cd036499bb6203eb7c42061fe", func := "carrier/carrierlaw02.CodeOne", spec := "codeOne", apart := false, narrowed := true }
def CodeOneUptoSaid : Prop := codeOneUptoRow.holds Try.pinned (OpenSpec.upto codeOneSpec)

/-- 'carrierlaw02.CodeOwn', WHERE WHAT IT READS IS OF BULK AT MOST 1048576: true; the input reads as it did. -/
def codeOwnUptoRow : OpenClaim := { program := "ytahfnbgbjphngaa", sum := "154af5bb074c1d522281536813ecbcb747f5d03cd036499bb6203eb7c42061fe", func := "carrier/carrierlaw02.CodeOwn", spec := "codeOwn", apart := false, narrowed := true }
def CodeOwnUptoSaid : Prop := codeOwnUptoRow.holds Try.pinned (OpenSpec.upto codeOwnSpec)

/-- 'carrierlaw02.CodeTexts', WHERE WHAT IT READS IS OF BULK AT MOST 1048576: true; the input reads as it did. -/
def codeTextsUptoRow : OpenClaim := { program := "ytahfnbgbjphngaa", sum := "154af5bb074c1d522281536813ecbcb747f5d03cd036499bb6203eb7c42061fe", func := "carrier/carrierlaw02.CodeTexts", spec := "codeTexts", apart := false, narrowed := true }
def CodeTextsUptoSaid : Prop := codeTextsUptoRow.holds Try.pinned (OpenSpec.upto codeTextsSpec)

/-- 'carrierlaw02.CodeReads', WHERE WHAT IT READS IS OF BULK AT MOST 1048576: true; the input reads as it did. -/
def codeReadsUptoRow : OpenClaim := { program := "ytahfnbgbjphngaa", sum := "154af5bb074c1d522281536813ecbcb747f5d03cd036499bb6203eb7c42061fe", func := "carrier/carrierlaw02.CodeReads", spec := "codeReads", apart := false, narrowed := true }
def CodeReadsUptoSaid : Prop := codeReadsUptoRow.holds Try.pinned (OpenSpec.upto codeReadsSpec)

/-- 'carrierlaw02.CodeBack', WHERE WHAT IT READS IS OF BULK AT MOST 1048576: true; the input reads as it did. -/
def codeBackUptoRow : OpenClaim := { program := "ytahfnbgbjphngaa", sum := "154af5bb074c1d522281536813ecbcb747f5d03cd036499bb6203eb7c42061fe", func := "carrier/carrierlaw02.CodeBack", spec := "codeBack", apart := false, narrowed := true }
def CodeBackUptoSaid : Prop := codeBackUptoRow.holds Try.pinned (OpenSpec.upto codeBackSpec)

/-- 'carrierlaw02.CodeNil', WHERE WHAT IT READS IS OF BULK AT MOST 1048576: true; the input reads as it did. -/
def codeNilUptoRow : OpenClaim := { program := "ytahfnbgbjphngaa", sum := "154af5bb074c1d522281536813ecbcb747f5d03cd036499bb6203eb7c42061fe", func := "carrier/carrierlaw02.CodeNil", spec := "codeNil", apart := false, narrowed := true }
def CodeNilUptoSaid : Prop := codeNilUptoRow.holds Try.pinned (OpenSpec.upto codeNilSpec)

end Rows
end Go.Proofs.Ytahfnbgbjphngaa
