/-
  No cell of these rows narrows 'for every input' (looked for: loops, veiled, ifaces, maps, wideKeys, modest, calm, conditions, laid).
  DERIVED. THE GIVEN ROWS OF THIS SEAT. 7 by the template 'for every input the law returns true; each argument reads behind the call as it read before'; 0 by the template 'total and deterministic' (their statements: YtnfmjbmcboiacaaTotals.lean).
  GIVEN WITH THE SEED: the statements are not yours to turn. If you find one false, say at which input.
  Laid BY PROGRAM, IN A SANDBOX (cutbox-rows.mjs): the forced cells as the released guide's own fill.sh prints them over the translation 4831d4e8663a14a5… (all of the seat's roots in one cut). By AI agents, Wed Nov 11 2026. No macro, syntax, notation, axiom, sorry.
-/
import Derived.Test.YtnfmjbmcboiacaaChecked
import GoSem.Claim
import GoSem.ClaimJoined
import GoSem.ClaimMapViews
import Derived.JoinedTies
import Derived.KernelRfl
namespace Go.Proofs.Ytnfmjbmcboiacaa
/- THE CELL 'sum', in the pinned program and in every row, IS THE sha256 OF THE DUMP (.gsa) THAT YtnfmjbmcboiacaaProg.lean LOADS. Nothing in Lean hashes anything: it is a label: what it is worth is what the hold of that sum in a sandbox is worth. -/
noncomputable def Try.pinned : Pinned := { name := "ytnfmjbmcboiacaa", sum := "4831d4e8663a14a5118b08f24e1c5bd22c5e7a1edc1998f3d70ef3e3b9d43566", checked := Try.checked }
namespace Rows
def none {H : Type} : Left H := { results := [], args := [] }

/-- 'carrierlaw03.BlockTorn': WHATEVER THE INPUT: true; the input reads as it did. -/
def blockTornSpec : ChangeSpec := { name := "blockTorn", fn := fun _ => fun
  | [d1, d2, d3, d4] => { results := [.lit (.bool true)], args := [d1, d2, d3, d4] }
  | _ => none }
def blockTornRow : OpenClaim := { program := "ytnfmjbmcboiacaa", sum := "4831d4e8663a14a5118b08f24e1c5bd22c5e7a1edc1998f3d70ef3e3b9d43566", func := "carrier/carrierlaw03.BlockTorn", spec := "blockTorn", apart := false }
def BlockTornSaid : Prop := blockTornRow.holds Try.pinned (OpenSpec.ofChange blockTornSpec)

/-- ITS FALSE NEIGHBOUR: 'it returns false'. Refute it at one input. -/
def blockTornWrong : ChangeSpec := { name := "blockTorn", fn := fun _ => fun
  | [d1, d2, d3, d4] => { results := [.lit (.bool false)], args := [d1, d2, d3, d4] }
  | _ => none }
def BlockTornWrongFalsely : Prop := blockTornRow.holds Try.pinned (OpenSpec.ofChange blockTornWrong)

/-- 'carrierlaw03.BlockOwn': WHATEVER THE INPUT: true; the input reads as it did. -/
def blockOwnSpec : ChangeSpec := { name := "blockOwn", fn := fun _ => fun
  | [d1, d2] => { results := [.lit (.bool true)], args := [d1, d2] }
  | _ => none }
def blockOwnRow : OpenClaim := { program := "ytnfmjbmcboiacaa", sum := "4831d4e8663a14a5118b08f24e1c5bd22c5e7a1edc1998f3d70ef3e3b9d43566", func := "carrier/carrierlaw03.BlockOwn", spec := "blockOwn", apart := false }
def BlockOwnSaid : Prop := blockOwnRow.holds Try.pinned (OpenSpec.ofChange blockOwnSpec)

/-- ITS FALSE NEIGHBOUR: 'it returns false'. Refute it at one input. -/
def blockOwnWrong : ChangeSpec := { name := "blockOwn", fn := fun _ => fun
  | [d1, d2] => { results := [.lit (.bool false)], args := [d1, d2] }
  | _ => none }
def BlockOwnWrongFalsely : Prop := blockOwnRow.holds Try.pinned (OpenSpec.ofChange blockOwnWrong)

/-- 'carrierlaw03.BlockSize': WHATEVER THE INPUT: true; the input reads as it did. -/
def blockSizeSpec : ChangeSpec := { name := "blockSize", fn := fun _ => fun
  | [d] => { results := [.lit (.bool true)], args := [d] }
  | _ => none }
def blockSizeRow : OpenClaim := { program := "ytnfmjbmcboiacaa", sum := "4831d4e8663a14a5118b08f24e1c5bd22c5e7a1edc1998f3d70ef3e3b9d43566", func := "carrier/carrierlaw03.BlockSize", spec := "blockSize", apart := false }
def BlockSizeSaid : Prop := blockSizeRow.holds Try.pinned (OpenSpec.ofChange blockSizeSpec)

/-- ITS FALSE NEIGHBOUR: 'it returns false'. Refute it at one input. -/
def blockSizeWrong : ChangeSpec := { name := "blockSize", fn := fun _ => fun
  | [d] => { results := [.lit (.bool false)], args := [d] }
  | _ => none }
def BlockSizeWrongFalsely : Prop := blockSizeRow.holds Try.pinned (OpenSpec.ofChange blockSizeWrong)

/-- 'carrierlaw03.BlockOver': WHATEVER THE INPUT: true; the input reads as it did. -/
def blockOverSpec : ChangeSpec := { name := "blockOver", fn := fun _ => fun
  | [d1, d2] => { results := [.lit (.bool true)], args := [d1, d2] }
  | _ => none }
def blockOverRow : OpenClaim := { program := "ytnfmjbmcboiacaa", sum := "4831d4e8663a14a5118b08f24e1c5bd22c5e7a1edc1998f3d70ef3e3b9d43566", func := "carrier/carrierlaw03.BlockOver", spec := "blockOver", apart := false }
def BlockOverSaid : Prop := blockOverRow.holds Try.pinned (OpenSpec.ofChange blockOverSpec)

/-- ITS FALSE NEIGHBOUR: 'it returns false'. Refute it at one input. -/
def blockOverWrong : ChangeSpec := { name := "blockOver", fn := fun _ => fun
  | [d1, d2] => { results := [.lit (.bool false)], args := [d1, d2] }
  | _ => none }
def BlockOverWrongFalsely : Prop := blockOverRow.holds Try.pinned (OpenSpec.ofChange blockOverWrong)

/-- 'carrierlaw03.BlockSafe': WHATEVER THE INPUT: true; the input reads as it did. -/
def blockSafeSpec : ChangeSpec := { name := "blockSafe", fn := fun _ => fun
  | [d1, d2, d3, d4] => { results := [.lit (.bool true)], args := [d1, d2, d3, d4] }
  | _ => none }
def blockSafeRow : OpenClaim := { program := "ytnfmjbmcboiacaa", sum := "4831d4e8663a14a5118b08f24e1c5bd22c5e7a1edc1998f3d70ef3e3b9d43566", func := "carrier/carrierlaw03.BlockSafe", spec := "blockSafe", apart := false }
def BlockSafeSaid : Prop := blockSafeRow.holds Try.pinned (OpenSpec.ofChange blockSafeSpec)

/-- ITS FALSE NEIGHBOUR: 'it returns false'. Refute it at one input. -/
def blockSafeWrong : ChangeSpec := { name := "blockSafe", fn := fun _ => fun
  | [d1, d2, d3, d4] => { results := [.lit (.bool false)], args := [d1, d2, d3, d4] }
  | _ => none }
def BlockSafeWrongFalsely : Prop := blockSafeRow.holds Try.pinned (OpenSpec.ofChange blockSafeWrong)

/-- 'carrierlaw03.BlockPlays': WHATEVER THE INPUT: true; the input reads as it did. -/
def blockPlaysSpec : ChangeSpec := { name := "blockPlays", fn := fun _ => fun
  | [d1, d2] => { results := [.lit (.bool true)], args := [d1, d2] }
  | _ => none }
def blockPlaysRow : OpenClaim := { program := "ytnfmjbmcboiacaa", sum := "4831d4e8663a14a5118b08f24e1c5bd22c5e7a1edc1998f3d70ef3e3b9d43566", func := "carrier/carrierlaw03.BlockPlays", spec := "blockPlays", apart := false }
def BlockPlaysSaid : Prop := blockPlaysRow.holds Try.pinned (OpenSpec.ofChange blockPlaysSpec)

/-- ITS FALSE NEIGHBOUR: 'it returns false'. Refute it at one input. -/
def blockPlaysWrong : ChangeSpec := { name := "blockPlays", fn := fun _ => fun
  | [d1, d2] => { results := [.lit (.bool false)], args := [d1, d2] }
  | _ => none }
def BlockPlaysWrongFalsely : Prop := blockPlaysRow.holds Try.pinned (OpenSpec.ofChange blockPlaysWrong)

/-- 'carrierlaw03.BlockNil': WHATEVER THE INPUT: true; the input reads as it did. -/
def blockNilSpec : ChangeSpec := { name := "blockNil", fn := fun _ => fun
  | [d1, d2] => { results := [.lit (.bool true)], args := [d1, d2] }
  | _ => none }
def blockNilRow : OpenClaim := { program := "ytnfmjbmcboiacaa", sum := "4831d4e8663a14a5118b08f24e1c5bd22c5e7a1edc1998f3d70ef3e3b9d43566", func := "carrier/carrierlaw03.BlockNil", spec := "blockNil", apart := false }
def BlockNilSaid : Prop := blockNilRow.holds Try.pinned (OpenSpec.ofChange blockNilSpec)

/-- ITS FALSE NEIGHBOUR: 'it returns false'. Refute it at one input. -/
def blockNilWrong : ChangeSpec := { name := "blockNil", fn := fun _ => fun
  | [d1, d2] => { results := [.lit (.bool false)], args := [d1, d2] }
  | _ => none }
def BlockNilWrongFalsely : Prop := blockNilRow.holds Try.pinned (OpenSpec.ofChange blockNilWrong)

/- THE SECOND FORM. 'bulk': how many values and letters a reading holds, each counted each time it is reached (what is shared counts as often as it is met; a slice's spare places count too). A statement '..UptoSaid' is the law's where the arguments, and the package variables that the reading takes, are together of bulk at most 1048576: NARROWER than '..Said'. Prove '..Said' where nothing that the law and all that it calls make is longer than what came in: it says more and counts as full. Else prove '..UptoSaid'. A law counts once. -/
mutual
def uptoBulk {H : Type} : DataW H → Nat
  | .lit (.string bytes) => bytes.length + 1
  | .lit _ => 1
  | .nil => 1
  | .ptr d => uptoBulk d + 1
  | .slice elems spare => uptoBulkAll elems + uptoBulkAll spare + 1
  | .agg parts => uptoBulkAll parts + 1
  | .iface _ d => uptoBulk d + 1
  | .map entries => uptoBulkEntries entries + 1
  | .held _ => 1
def uptoBulkAll {H : Type} : List (DataW H) → Nat
  | [] => 0
  | d :: r => uptoBulk d + uptoBulkAll r
def uptoBulkEntries {H : Type} : List (Lit × DataW H) → Nat
  | [] => 0
  | x :: r => uptoBulkEntry x + uptoBulkEntries r
def uptoBulkEntry {H : Type} : Lit × DataW H → Nat
  | (.string bytes, d) => bytes.length + uptoBulk d + 1
  | (_, d) => uptoBulk d + 1
 end
def uptoSmall : (H : Type) → List (DataW H) → Bool := fun _ ds => decide (uptoBulkAll ds ≤ 1048576)
def OpenSpec.upto (s : _root_.Go.ChangeSpec) : _root_.Go.OpenSpec := { _root_.Go.OpenSpec.ofChange s with cond := some uptoSmall }

/-- 'carrierlaw03.BlockTorn', WHERE WHAT IT READS IS OF BULK AT MOST 1048576: true; the input reads as it did. -/
def blockTornUptoRow : OpenClaim := { program := "ytnfmjbmcboiacaa", sum := "4831d4e8663a14a5118b08f24e1c5bd22c5e7a1edc1998f3d70ef3e3b9d43566", func := "carrier/carrierlaw03.BlockTorn", spec := "blockTorn", apart := false, narrowed := true }
def BlockTornUptoSaid : Prop := blockTornUptoRow.holds Try.pinned (OpenSpec.upto blockTornSpec)

/-- 'carrierlaw03.BlockOwn', WHERE WHAT IT READS IS OF BULK AT MOST 1048576: true; the input reads as it did. -/
def blockOwnUptoRow : OpenClaim := { program := "ytnfmjbmcboiacaa", sum := "4831d4e8663a14a5118b08f24e1c5bd22c5e7a1edc1998f3d70ef3e3b9d43566", func := "carrier/carrierlaw03.BlockOwn", spec := "blockOwn", apart := false, narrowed := true }
def BlockOwnUptoSaid : Prop := blockOwnUptoRow.holds Try.pinned (OpenSpec.upto blockOwnSpec)

/-- 'carrierlaw03.BlockSize', WHERE WHAT IT READS IS OF BULK AT MOST 1048576: true; the input reads as it did. -/
def blockSizeUptoRow : OpenClaim := { program := "ytnfmjbmcboiacaa", sum := "4831d4e8663a14a5118b08f24e1c5bd22c5e7a1edc1998f3d70ef3e3b9d43566", func := "carrier/carrierlaw03.BlockSize", spec := "blockSize", apart := false, narrowed := true }
def BlockSizeUptoSaid : Prop := blockSizeUptoRow.holds Try.pinned (OpenSpec.upto blockSizeSpec)

/-- 'carrierlaw03.BlockOver', WHERE WHAT IT READS IS OF BULK AT MOST 1048576: true; the input reads as it did. -/
def blockOverUptoRow : OpenClaim := { program := "ytnfmjbmcboiacaa", sum := "4831d4e8663a14a5118b08f24e1c5bd22c5e7a1edc1998f3d70ef3e3b9d43566", func := "carrier/carrierlaw03.BlockOver", spec := "blockOver", apart := false, narrowed := true }
def BlockOverUptoSaid : Prop := blockOverUptoRow.holds Try.pinned (OpenSpec.upto blockOverSpec)

/-- 'carrierlaw03.BlockSafe', WHERE WHAT IT READS IS OF BULK AT MOST 1048576: true; the input reads as it did. -/
def blockSafeUptoRow : OpenClaim := { program := "ytnfmjbmcboiacaa", sum := "4831d4e8663a14a5118b08f24e1c5bd22c5e7a1edc1998f3d70ef3e3b9d43566", func := "carrier/carrierlaw03.BlockSafe", spec := "blockSafe", apart := false, narrowed := true }
def BlockSafeUptoSaid : Prop := blockSafeUptoRow.holds Try.pinned (OpenSpec.upto blockSafeSpec)

/-- 'carrierlaw03.BlockPlays', WHERE WHAT IT READS IS OF BULK AT MOST 1048576: true; the input reads as it did. -/
def blockPlaysUptoRow : OpenClaim := { program := "ytnfmjbmcboiacaa", sum := "4831d4e8663a14a5118b08f24e1c5bd22c5e7a1edc1998f3d70ef3e3b9d43566", func := "carrier/carrierlaw03.BlockPlays", spec := "blockPlays", apart := false, narrowed := true }
def BlockPlaysUptoSaid : Prop := blockPlaysUptoRow.holds Try.pinned (OpenSpec.upto blockPlaysSpec)

/-- 'carrierlaw03.BlockNil', WHERE WHAT IT READS IS OF BULK AT MOST 1048576: true; the input reads as it did. -/
def blockNilUptoRow : OpenClaim := { program := "ytnfmjbmcboiacaa", sum := "4831d4e8663a14a5118b08f24e1c5bd22c5e7a1edc1998f3d70ef3e3b9d43566", func := "carrier/carrierlaw03.BlockNil", spec := "blockNil", apart := false, narrowed := true }
def BlockNilUptoSaid : Prop := blockNilUptoRow.holds Try.pinned (OpenSpec.upto blockNilSpec)

end Rows
end Go.Proofs.Ytnfmjbmcboiacaa
