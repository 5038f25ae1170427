/-
  No cell of these rows narrows 'for every input' (looked for: loops, veiled, ifaces, maps, wideKeys, modest, calm, conditions, laid).
  DERIVED. THE GIVEN ROWS OF THIS SEAT. 12 by the template 'for every input the law returns true; each argument reads behind the call as it read before'; 0 by the template 'total and deterministic' (their statements: YtldblcolnjkcaaaTotals.lean).
  GIVEN WITH THE SEED: the statements are not yours to turn. If you find one false, say at which input.
  Laid BY PROGRAM, IN A SANDBOX (cutbox-rows.mjs): the forced cells as the released guide's own fill.sh prints them over the translation 55c68667506886bc… (all of the seat's roots in one cut). By AI agents, Wed Nov 11 2026. No macro, syntax, notation, axiom, sorry.
-/
import Derived.Test.YtldblcolnjkcaaaChecked
import GoSem.Claim
import GoSem.ClaimJoined
import GoSem.ClaimMapViews
import Derived.JoinedTies
import Derived.KernelRfl
namespace Go.Proofs.Ytldblcolnjkcaaa
/- THE CELL 'sum', in the pinned program and in every row, IS THE sha256 OF THE DUMP (.gsa) THAT YtldblcolnjkcaaaProg.lean LOADS. Nothing in Lean hashes anything: it is a label: what it is worth is what the hold of that sum in a sandbox is worth. -/
noncomputable def Try.pinned : Pinned := { name := "ytldblcolnjkcaaa", sum := "55c68667506886bc9aeb0fe33e6e7056911d1726e9b4c4dc0168f791bb627dc7", checked := Try.checked }
namespace Rows
def none {H : Type} : Left H := { results := [], args := [] }

/-- 'laws.FnRankOf': WHATEVER THE INPUT: true; the input reads as it did. -/
def fnRankOfSpec : ChangeSpec := { name := "fnRankOf", fn := fun _ => fun
  | [d] => { results := [.lit (.bool true)], args := [d] }
  | _ => none }
def fnRankOfRow : OpenClaim := { program := "ytldblcolnjkcaaa", sum := "55c68667506886bc9aeb0fe33e6e7056911d1726e9b4c4dc0168f791bb627dc7", func := "loop.example/strideviews/laws.FnRankOf", spec := "fnRankOf", apart := false }
def FnRankOfSaid : Prop := fnRankOfRow.holds Try.pinned (OpenSpec.ofChange fnRankOfSpec)

/-- ITS FALSE NEIGHBOUR: 'it returns false'. Refute it at one input. -/
def fnRankOfWrong : ChangeSpec := { name := "fnRankOf", fn := fun _ => fun
  | [d] => { results := [.lit (.bool false)], args := [d] }
  | _ => none }
def FnRankOfWrongFalsely : Prop := fnRankOfRow.holds Try.pinned (OpenSpec.ofChange fnRankOfWrong)

/-- 'laws.FnMergeSlices': WHATEVER THE INPUT: true; the input reads as it did. -/
def fnMergeSlicesSpec : ChangeSpec := { name := "fnMergeSlices", fn := fun _ => fun
  | [d] => { results := [.lit (.bool true)], args := [d] }
  | _ => none }
def fnMergeSlicesRow : OpenClaim := { program := "ytldblcolnjkcaaa", sum := "55c68667506886bc9aeb0fe33e6e7056911d1726e9b4c4dc0168f791bb627dc7", func := "loop.example/strideviews/laws.FnMergeSlices", spec := "fnMergeSlices", apart := false }
def FnMergeSlicesSaid : Prop := fnMergeSlicesRow.holds Try.pinned (OpenSpec.ofChange fnMergeSlicesSpec)

/-- ITS FALSE NEIGHBOUR: 'it returns false'. Refute it at one input. -/
def fnMergeSlicesWrong : ChangeSpec := { name := "fnMergeSlices", fn := fun _ => fun
  | [d] => { results := [.lit (.bool false)], args := [d] }
  | _ => none }
def FnMergeSlicesWrongFalsely : Prop := fnMergeSlicesRow.holds Try.pinned (OpenSpec.ofChange fnMergeSlicesWrong)

/-- 'laws.FnNewView': WHATEVER THE INPUT: true; the input reads as it did. -/
def fnNewViewSpec : ChangeSpec := { name := "fnNewView", fn := fun _ => fun
  | [d] => { results := [.lit (.bool true)], args := [d] }
  | _ => none }
def fnNewViewRow : OpenClaim := { program := "ytldblcolnjkcaaa", sum := "55c68667506886bc9aeb0fe33e6e7056911d1726e9b4c4dc0168f791bb627dc7", func := "loop.example/strideviews/laws.FnNewView", spec := "fnNewView", unfollowed := true, recurses := true, apart := false }
def FnNewViewSaid : Prop := fnNewViewRow.holds Try.pinned (OpenSpec.ofChange fnNewViewSpec)

/-- ITS FALSE NEIGHBOUR: 'it returns false'. Refute it at one input. -/
def fnNewViewWrong : ChangeSpec := { name := "fnNewView", fn := fun _ => fun
  | [d] => { results := [.lit (.bool false)], args := [d] }
  | _ => none }
def FnNewViewWrongFalsely : Prop := fnNewViewRow.holds Try.pinned (OpenSpec.ofChange fnNewViewWrong)

/-- 'laws.FnValidView': WHATEVER THE INPUT: true; the input reads as it did. -/
def fnValidViewSpec : ChangeSpec := { name := "fnValidView", fn := fun _ => fun
  | [d] => { results := [.lit (.bool true)], args := [d] }
  | _ => none }
def fnValidViewRow : OpenClaim := { program := "ytldblcolnjkcaaa", sum := "55c68667506886bc9aeb0fe33e6e7056911d1726e9b4c4dc0168f791bb627dc7", func := "loop.example/strideviews/laws.FnValidView", spec := "fnValidView", unfollowed := true, recurses := true, apart := false }
def FnValidViewSaid : Prop := fnValidViewRow.holds Try.pinned (OpenSpec.ofChange fnValidViewSpec)

/-- ITS FALSE NEIGHBOUR: 'it returns false'. Refute it at one input. -/
def fnValidViewWrong : ChangeSpec := { name := "fnValidView", fn := fun _ => fun
  | [d] => { results := [.lit (.bool false)], args := [d] }
  | _ => none }
def FnValidViewWrongFalsely : Prop := fnValidViewRow.holds Try.pinned (OpenSpec.ofChange fnValidViewWrong)

/-- 'laws.FnCommonShape': WHATEVER THE INPUT: true; the input reads as it did. -/
def fnCommonShapeSpec : ChangeSpec := { name := "fnCommonShape", fn := fun _ => fun
  | [d] => { results := [.lit (.bool true)], args := [d] }
  | _ => none }
def fnCommonShapeRow : OpenClaim := { program := "ytldblcolnjkcaaa", sum := "55c68667506886bc9aeb0fe33e6e7056911d1726e9b4c4dc0168f791bb627dc7", func := "loop.example/strideviews/laws.FnCommonShape", spec := "fnCommonShape", unfollowed := true, recurses := true, apart := false }
def FnCommonShapeSaid : Prop := fnCommonShapeRow.holds Try.pinned (OpenSpec.ofChange fnCommonShapeSpec)

/-- ITS FALSE NEIGHBOUR: 'it returns false'. Refute it at one input. -/
def fnCommonShapeWrong : ChangeSpec := { name := "fnCommonShape", fn := fun _ => fun
  | [d] => { results := [.lit (.bool false)], args := [d] }
  | _ => none }
def FnCommonShapeWrongFalsely : Prop := fnCommonShapeRow.holds Try.pinned (OpenSpec.ofChange fnCommonShapeWrong)

/-- 'laws.FnSliceRange': WHATEVER THE INPUT: true; the input reads as it did. -/
def fnSliceRangeSpec : ChangeSpec := { name := "fnSliceRange", fn := fun _ => fun
  | [d] => { results := [.lit (.bool true)], args := [d] }
  | _ => none }
def fnSliceRangeRow : OpenClaim := { program := "ytldblcolnjkcaaa", sum := "55c68667506886bc9aeb0fe33e6e7056911d1726e9b4c4dc0168f791bb627dc7", func := "loop.example/strideviews/laws.FnSliceRange", spec := "fnSliceRange", unfollowed := true, recurses := true, apart := false }
def FnSliceRangeSaid : Prop := fnSliceRangeRow.holds Try.pinned (OpenSpec.ofChange fnSliceRangeSpec)

/-- ITS FALSE NEIGHBOUR: 'it returns false'. Refute it at one input. -/
def fnSliceRangeWrong : ChangeSpec := { name := "fnSliceRange", fn := fun _ => fun
  | [d] => { results := [.lit (.bool false)], args := [d] }
  | _ => none }
def FnSliceRangeWrongFalsely : Prop := fnSliceRangeRow.holds Try.pinned (OpenSpec.ofChange fnSliceRangeWrong)

/-- 'laws.FnExactHoldersOf': WHATEVER THE INPUT: true; the input reads as it did. -/
def fnExactHoldersOfSpec : ChangeSpec := { name := "fnExactHoldersOf", fn := fun _ => fun
  | [d1, d2] => { results := [.lit (.bool true)], args := [d1, d2] }
  | _ => none }
def fnExactHoldersOfRow : OpenClaim := { program := "ytldblcolnjkcaaa", sum := "55c68667506886bc9aeb0fe33e6e7056911d1726e9b4c4dc0168f791bb627dc7", func := "loop.example/strideviews/laws.FnExactHoldersOf", spec := "fnExactHoldersOf", unfollowed := true, recurses := true, apart := false }
def FnExactHoldersOfSaid : Prop := fnExactHoldersOfRow.holds Try.pinned (OpenSpec.ofChange fnExactHoldersOfSpec)

/-- ITS FALSE NEIGHBOUR: 'it returns false'. Refute it at one input. -/
def fnExactHoldersOfWrong : ChangeSpec := { name := "fnExactHoldersOf", fn := fun _ => fun
  | [d1, d2] => { results := [.lit (.bool false)], args := [d1, d2] }
  | _ => none }
def FnExactHoldersOfWrongFalsely : Prop := fnExactHoldersOfRow.holds Try.pinned (OpenSpec.ofChange fnExactHoldersOfWrong)

/-- 'laws.FnExactTurnTensor': WHATEVER THE INPUT: true; the input reads as it did. -/
def fnExactTurnTensorSpec : ChangeSpec := { name := "fnExactTurnTensor", fn := fun _ => fun
  | [d1, d2] => { results := [.lit (.bool true)], args := [d1, d2] }
  | _ => none }
def fnExactTurnTensorRow : OpenClaim := { program := "ytldblcolnjkcaaa", sum := "55c68667506886bc9aeb0fe33e6e7056911d1726e9b4c4dc0168f791bb627dc7", func := "loop.example/strideviews/laws.FnExactTurnTensor", spec := "fnExactTurnTensor", unfollowed := true, recurses := true, apart := false }
def FnExactTurnTensorSaid : Prop := fnExactTurnTensorRow.holds Try.pinned (OpenSpec.ofChange fnExactTurnTensorSpec)

/-- ITS FALSE NEIGHBOUR: 'it returns false'. Refute it at one input. -/
def fnExactTurnTensorWrong : ChangeSpec := { name := "fnExactTurnTensor", fn := fun _ => fun
  | [d1, d2] => { results := [.lit (.bool false)], args := [d1, d2] }
  | _ => none }
def FnExactTurnTensorWrongFalsely : Prop := fnExactTurnTensorRow.holds Try.pinned (OpenSpec.ofChange fnExactTurnTensorWrong)

/-- 'laws.FnExactExtentsOf': WHATEVER THE INPUT: true; the input reads as it did. -/
def fnExactExtentsOfSpec : ChangeSpec := { name := "fnExactExtentsOf", fn := fun _ => fun
  | [d1, d2] => { results := [.lit (.bool true)], args := [d1, d2] }
  | _ => none }
def fnExactExtentsOfRow : OpenClaim := { program := "ytldblcolnjkcaaa", sum := "55c68667506886bc9aeb0fe33e6e7056911d1726e9b4c4dc0168f791bb627dc7", func := "loop.example/strideviews/laws.FnExactExtentsOf", spec := "fnExactExtentsOf", unfollowed := true, recurses := true, apart := false }
def FnExactExtentsOfSaid : Prop := fnExactExtentsOfRow.holds Try.pinned (OpenSpec.ofChange fnExactExtentsOfSpec)

/-- ITS FALSE NEIGHBOUR: 'it returns false'. Refute it at one input. -/
def fnExactExtentsOfWrong : ChangeSpec := { name := "fnExactExtentsOf", fn := fun _ => fun
  | [d1, d2] => { results := [.lit (.bool false)], args := [d1, d2] }
  | _ => none }
def FnExactExtentsOfWrongFalsely : Prop := fnExactExtentsOfRow.holds Try.pinned (OpenSpec.ofChange fnExactExtentsOfWrong)

/-- 'laws.FnTurnTensor': WHATEVER THE INPUT: true; the input reads as it did. -/
def fnTurnTensorSpec : ChangeSpec := { name := "fnTurnTensor", fn := fun _ => fun
  | [d] => { results := [.lit (.bool true)], args := [d] }
  | _ => none }
def fnTurnTensorRow : OpenClaim := { program := "ytldblcolnjkcaaa", sum := "55c68667506886bc9aeb0fe33e6e7056911d1726e9b4c4dc0168f791bb627dc7", func := "loop.example/strideviews/laws.FnTurnTensor", spec := "fnTurnTensor", unfollowed := true, recurses := true, apart := false }
def FnTurnTensorSaid : Prop := fnTurnTensorRow.holds Try.pinned (OpenSpec.ofChange fnTurnTensorSpec)

/-- ITS FALSE NEIGHBOUR: 'it returns false'. Refute it at one input. -/
def fnTurnTensorWrong : ChangeSpec := { name := "fnTurnTensor", fn := fun _ => fun
  | [d] => { results := [.lit (.bool false)], args := [d] }
  | _ => none }
def FnTurnTensorWrongFalsely : Prop := fnTurnTensorRow.holds Try.pinned (OpenSpec.ofChange fnTurnTensorWrong)

/-- 'laws.FnExtentsOf': WHATEVER THE INPUT: true; the input reads as it did. -/
def fnExtentsOfSpec : ChangeSpec := { name := "fnExtentsOf", fn := fun _ => fun
  | [d] => { results := [.lit (.bool true)], args := [d] }
  | _ => none }
def fnExtentsOfRow : OpenClaim := { program := "ytldblcolnjkcaaa", sum := "55c68667506886bc9aeb0fe33e6e7056911d1726e9b4c4dc0168f791bb627dc7", func := "loop.example/strideviews/laws.FnExtentsOf", spec := "fnExtentsOf", unfollowed := true, recurses := true, apart := false }
def FnExtentsOfSaid : Prop := fnExtentsOfRow.holds Try.pinned (OpenSpec.ofChange fnExtentsOfSpec)

/-- ITS FALSE NEIGHBOUR: 'it returns false'. Refute it at one input. -/
def fnExtentsOfWrong : ChangeSpec := { name := "fnExtentsOf", fn := fun _ => fun
  | [d] => { results := [.lit (.bool false)], args := [d] }
  | _ => none }
def FnExtentsOfWrongFalsely : Prop := fnExtentsOfRow.holds Try.pinned (OpenSpec.ofChange fnExtentsOfWrong)

/-- 'laws.FnExactSumDim': WHATEVER THE INPUT: true; the input reads as it did. -/
def fnExactSumDimSpec : ChangeSpec := { name := "fnExactSumDim", fn := fun _ => fun
  | [d1, d2] => { results := [.lit (.bool true)], args := [d1, d2] }
  | _ => none }
def fnExactSumDimRow : OpenClaim := { program := "ytldblcolnjkcaaa", sum := "55c68667506886bc9aeb0fe33e6e7056911d1726e9b4c4dc0168f791bb627dc7", func := "loop.example/strideviews/laws.FnExactSumDim", spec := "fnExactSumDim", unfollowed := true, recurses := true, apart := false }
def FnExactSumDimSaid : Prop := fnExactSumDimRow.holds Try.pinned (OpenSpec.ofChange fnExactSumDimSpec)

/-- ITS FALSE NEIGHBOUR: 'it returns false'. Refute it at one input. -/
def fnExactSumDimWrong : ChangeSpec := { name := "fnExactSumDim", fn := fun _ => fun
  | [d1, d2] => { results := [.lit (.bool false)], args := [d1, d2] }
  | _ => none }
def FnExactSumDimWrongFalsely : Prop := fnExactSumDimRow.holds Try.pinned (OpenSpec.ofChange fnExactSumDimWrong)

/- THE SECOND FORM. 'bulk': how many values and letters a reading holds, each counted each time it is reached (what is shared counts as often as it is met; a slice's spare places count too). A statement '..UptoSaid' is the law's where the arguments, and the package variables that the reading takes, are together of bulk at most 1048576: NARROWER than '..Said'. Prove '..Said' where nothing that the law and all that it calls make is longer than what came in: it says more and counts as full. Else prove '..UptoSaid'. A law counts once. -/
mutual
def uptoBulk {H : Type} : DataW H → Nat
  | .lit (.string bytes) => bytes.length + 1
  | .lit _ => 1
  | .nil => 1
  | .ptr d => uptoBulk d + 1
  | .slice elems spare => uptoBulkAll elems + uptoBulkAll spare + 1
  | .agg parts => uptoBulkAll parts + 1
  | .iface _ d => uptoBulk d + 1
  | .map entries => uptoBulkEntries entries + 1
  | .held _ => 1
def uptoBulkAll {H : Type} : List (DataW H) → Nat
  | [] => 0
  | d :: r => uptoBulk d + uptoBulkAll r
def uptoBulkEntries {H : Type} : List (Lit × DataW H) → Nat
  | [] => 0
  | x :: r => uptoBulkEntry x + uptoBulkEntries r
def uptoBulkEntry {H : Type} : Lit × DataW H → Nat
  | (.string bytes, d) => bytes.length + uptoBulk d + 1
  | (_, d) => uptoBulk d + 1
 end
def uptoSmall : (H : Type) → List (DataW H) → Bool := fun _ ds => decide (uptoBulkAll ds ≤ 1048576)
def OpenSpec.upto (s : _root_.Go.ChangeSpec) : _root_.Go.OpenSpec := { _root_.Go.OpenSpec.ofChange s with cond := some uptoSmall }

/-- 'laws.FnRankOf', WHERE WHAT IT READS IS OF BULK AT MOST 1048576: true; the input reads as it did. -/
def fnRankOfUptoRow : OpenClaim := { program := "ytldblcolnjkcaaa", sum := "55c68667506886bc9aeb0fe33e6e7056911d1726e9b4c4dc0168f791bb627dc7", func := "loop.example/strideviews/laws.FnRankOf", spec := "fnRankOf", apart := false, narrowed := true }
def FnRankOfUptoSaid : Prop := fnRankOfUptoRow.holds Try.pinned (OpenSpec.upto fnRankOfSpec)

/-- 'laws.FnMergeSlices', WHERE WHAT IT READS IS OF BULK AT MOST 1048576: true; the input reads as it did. -/
def fnMergeSlicesUptoRow : OpenClaim := { program := "ytldblcolnjkcaaa", sum := "55c68667506886bc9aeb0fe33e6e7056911d1726e9b4c4dc0168f791bb627dc7", func := "loop.example/strideviews/laws.FnMergeSlices", spec := "fnMergeSlices", apart := false, narrowed := true }
def FnMergeSlicesUptoSaid : Prop := fnMergeSlicesUptoRow.holds Try.pinned (OpenSpec.upto fnMergeSlicesSpec)

/-- 'laws.FnNewView', WHERE WHAT IT READS IS OF BULK AT MOST 1048576: true; the input reads as it did. -/
def fnNewViewUptoRow : OpenClaim := { program := "ytldblcolnjkcaaa", sum := "55c68667506886bc9aeb0fe33e6e7056911d1726e9b4c4dc0168f791bb627dc7", func := "loop.example/strideviews/laws.FnNewView", spec := "fnNewView", unfollowed := true, recurses := true, apart := false, narrowed := true }
def FnNewViewUptoSaid : Prop := fnNewViewUptoRow.holds Try.pinned (OpenSpec.upto fnNewViewSpec)

/-- 'laws.FnValidView', WHERE WHAT IT READS IS OF BULK AT MOST 1048576: true; the input reads as it did. -/
def fnValidViewUptoRow : OpenClaim := { program := "ytldblcolnjkcaaa", sum := "55c68667506886bc9aeb0fe33e6e7056911d1726e9b4c4dc0168f791bb627dc7", func := "loop.example/strideviews/laws.FnValidView", spec := "fnValidView", unfollowed := true, recurses := true, apart := false, narrowed := true }
def FnValidViewUptoSaid : Prop := fnValidViewUptoRow.holds Try.pinned (OpenSpec.upto fnValidViewSpec)

/-- 'laws.FnCommonShape', WHERE WHAT IT READS IS OF BULK AT MOST 1048576: true; the input reads as it did. -/
def fnCommonShapeUptoRow : OpenClaim := { program := "ytldblcolnjkcaaa", sum := "55c68667506886bc9aeb0fe33e6e7056911d1726e9b4c4dc0168f791bb627dc7", func := "loop.example/strideviews/laws.FnCommonShape", spec := "fnCommonShape", unfollowed := true, recurses := true, apart := false, narrowed := true }
def FnCommonShapeUptoSaid : Prop := fnCommonShapeUptoRow.holds Try.pinned (OpenSpec.upto fnCommonShapeSpec)

/-- 'laws.FnSliceRange', WHERE WHAT IT READS IS OF BULK AT MOST 1048576: true; the input reads as it did. -/
def fnSliceRangeUptoRow : OpenClaim := { program := "ytldblcolnjkcaaa", sum := "55c68667506886bc9aeb0fe33e6e7056911d1726e9b4c4dc0168f791bb627dc7", func := "loop.example/strideviews/laws.FnSliceRange", spec := "fnSliceRange", unfollowed := true, recurses := true, apart := false, narrowed := true }
def FnSliceRangeUptoSaid : Prop := fnSliceRangeUptoRow.holds Try.pinned (OpenSpec.upto fnSliceRangeSpec)

/-- 'laws.FnExactHoldersOf', WHERE WHAT IT READS IS OF BULK AT MOST 1048576: true; the input reads as it did. -/
def fnExactHoldersOfUptoRow : OpenClaim := { program := "ytldblcolnjkcaaa", sum := "55c68667506886bc9aeb0fe33e6e7056911d1726e9b4c4dc0168f791bb627dc7", func := "loop.example/strideviews/laws.FnExactHoldersOf", spec := "fnExactHoldersOf", unfollowed := true, recurses := true, apart := false, narrowed := true }
def FnExactHoldersOfUptoSaid : Prop := fnExactHoldersOfUptoRow.holds Try.pinned (OpenSpec.upto fnExactHoldersOfSpec)

/-- 'laws.FnExactTurnTensor', WHERE WHAT IT READS IS OF BULK AT MOST 1048576: true; the input reads as it did. -/
def fnExactTurnTensorUptoRow : OpenClaim := { program := "ytldblcolnjkcaaa", sum := "55c68667506886bc9aeb0fe33e6e7056911d1726e9b4c4dc0168f791bb627dc7", func := "loop.example/strideviews/laws.FnExactTurnTensor", spec := "fnExactTurnTensor", unfollowed := true, recurses := true, apart := false, narrowed := true }
def FnExactTurnTensorUptoSaid : Prop := fnExactTurnTensorUptoRow.holds Try.pinned (OpenSpec.upto fnExactTurnTensorSpec)

/-- 'laws.FnExactExtentsOf', WHERE WHAT IT READS IS OF BULK AT MOST 1048576: true; the input reads as it did. -/
def fnExactExtentsOfUptoRow : OpenClaim := { program := "ytldblcolnjkcaaa", sum := "55c68667506886bc9aeb0fe33e6e7056911d1726e9b4c4dc0168f791bb627dc7", func := "loop.example/strideviews/laws.FnExactExtentsOf", spec := "fnExactExtentsOf", unfollowed := true, recurses := true, apart := false, narrowed := true }
def FnExactExtentsOfUptoSaid : Prop := fnExactExtentsOfUptoRow.holds Try.pinned (OpenSpec.upto fnExactExtentsOfSpec)

/-- 'laws.FnTurnTensor', WHERE WHAT IT READS IS OF BULK AT MOST 1048576: true; the input reads as it did. -/
def fnTurnTensorUptoRow : OpenClaim := { program := "ytldblcolnjkcaaa", sum := "55c68667506886bc9aeb0fe33e6e7056911d1726e9b4c4dc0168f791bb627dc7", func := "loop.example/strideviews/laws.FnTurnTensor", spec := "fnTurnTensor", unfollowed := true, recurses := true, apart := false, narrowed := true }
def FnTurnTensorUptoSaid : Prop := fnTurnTensorUptoRow.holds Try.pinned (OpenSpec.upto fnTurnTensorSpec)

/-- 'laws.FnExtentsOf', WHERE WHAT IT READS IS OF BULK AT MOST 1048576: true; the input reads as it did. -/
def fnExtentsOfUptoRow : OpenClaim := { program := "ytldblcolnjkcaaa", sum := "55c68667506886bc9aeb0fe33e6e7056911d1726e9b4c4dc0168f791bb627dc7", func := "loop.example/strideviews/laws.FnExtentsOf", spec := "fnExtentsOf", unfollowed := true, recurses := true, apart := false, narrowed := true }
def FnExtentsOfUptoSaid : Prop := fnExtentsOfUptoRow.holds Try.pinned (OpenSpec.upto fnExtentsOfSpec)

/-- 'laws.FnExactSumDim', WHERE WHAT IT READS IS OF BULK AT MOST 1048576: true; the input reads as it did. -/
def fnExactSumDimUptoRow : OpenClaim := { program := "ytldblcolnjkcaaa", sum := "55c68667506886bc9aeb0fe33e6e7056911d1726e9b4c4dc0168f791bb627dc7", func := "loop.example/strideviews/laws.FnExactSumDim", spec := "fnExactSumDim", unfollowed := true, recurses := true, apart := false, narrowed := true }
def FnExactSumDimUptoSaid : Prop := fnExactSumDimUptoRow.holds Try.pinned (OpenSpec.upto fnExactSumDimSpec)

end Rows
end Go.Proofs.Ytldblcolnjkcaaa
