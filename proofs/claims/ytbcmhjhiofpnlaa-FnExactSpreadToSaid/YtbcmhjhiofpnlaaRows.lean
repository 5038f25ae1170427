/-
  No cell of these rows narrows 'for every input' (looked for: loops, veiled, ifaces, maps, wideKeys, modest, calm, conditions, laid).
  DERIVED. THE GIVEN ROWS OF THIS SEAT. 12 by the template 'for every input the law returns true; each argument reads behind the call as it read before'; 0 by the template 'total and deterministic' (their statements: YtbcmhjhiofpnlaaTotals.lean).
  GIVEN WITH THE SEED: the statements are not yours to turn. If you find one false, say at which input.
  Laid BY PROGRAM, IN A SANDBOX (cutbox-rows.mjs): the forced cells as the released guide's own fill.sh prints them over the translation 2a8d2ffdb954fa53… (all of the seat's roots in one cut). By AI agents, Wed Nov 11 2026. No macro, syntax, notation, axiom, sorry.
-/
import Derived.Test.YtbcmhjhiofpnlaaChecked
import GoSem.Claim
import GoSem.ClaimJoined
import GoSem.ClaimMapViews
import Derived.JoinedTies
import Derived.KernelRfl
namespace Go.Proofs.Ytbcmhjhiofpnlaa
/- THE CELL 'sum', in the pinned program and in every row, IS THE sha256 OF THE DUMP (.gsa) THAT YtbcmhjhiofpnlaaProg.lean LOADS. Nothing in Lean hashes anything: it is a label: what it is worth is what the hold of that sum in a sandbox is worth. -/
noncomputable def Try.pinned : Pinned := { name := "ytbcmhjhiofpnlaa", sum := "2a8d2ffdb954fa53306bff1a0efe63678122261aed259a5bab875b785e23eb40", checked := Try.checked }
namespace Rows
def none {H : Type} : Left H := { results := [], args := [] }

/-- 'laws.FnExactSliceDim': WHATEVER THE INPUT: true; the input reads as it did. -/
def fnExactSliceDimSpec : ChangeSpec := { name := "fnExactSliceDim", fn := fun _ => fun
  | [d1, d2, d3] => { results := [.lit (.bool true)], args := [d1, d2, d3] }
  | _ => none }
def fnExactSliceDimRow : OpenClaim := { program := "ytbcmhjhiofpnlaa", sum := "2a8d2ffdb954fa53306bff1a0efe63678122261aed259a5bab875b785e23eb40", func := "loop.example/strideviews/laws.FnExactSliceDim", spec := "fnExactSliceDim", unfollowed := true, recurses := true, apart := false }
def FnExactSliceDimSaid : Prop := fnExactSliceDimRow.holds Try.pinned (OpenSpec.ofChange fnExactSliceDimSpec)

/-- ITS FALSE NEIGHBOUR: 'it returns false'. Refute it at one input. -/
def fnExactSliceDimWrong : ChangeSpec := { name := "fnExactSliceDim", fn := fun _ => fun
  | [d1, d2, d3] => { results := [.lit (.bool false)], args := [d1, d2, d3] }
  | _ => none }
def FnExactSliceDimWrongFalsely : Prop := fnExactSliceDimRow.holds Try.pinned (OpenSpec.ofChange fnExactSliceDimWrong)

/-- 'laws.FnExactFlipDim': WHATEVER THE INPUT: true; the input reads as it did. -/
def fnExactFlipDimSpec : ChangeSpec := { name := "fnExactFlipDim", fn := fun _ => fun
  | [d1, d2] => { results := [.lit (.bool true)], args := [d1, d2] }
  | _ => none }
def fnExactFlipDimRow : OpenClaim := { program := "ytbcmhjhiofpnlaa", sum := "2a8d2ffdb954fa53306bff1a0efe63678122261aed259a5bab875b785e23eb40", func := "loop.example/strideviews/laws.FnExactFlipDim", spec := "fnExactFlipDim", unfollowed := true, recurses := true, apart := false }
def FnExactFlipDimSaid : Prop := fnExactFlipDimRow.holds Try.pinned (OpenSpec.ofChange fnExactFlipDimSpec)

/-- ITS FALSE NEIGHBOUR: 'it returns false'. Refute it at one input. -/
def fnExactFlipDimWrong : ChangeSpec := { name := "fnExactFlipDim", fn := fun _ => fun
  | [d1, d2] => { results := [.lit (.bool false)], args := [d1, d2] }
  | _ => none }
def FnExactFlipDimWrongFalsely : Prop := fnExactFlipDimRow.holds Try.pinned (OpenSpec.ofChange fnExactFlipDimWrong)

/-- 'laws.FnExactPickDim': WHATEVER THE INPUT: true; the input reads as it did. -/
def fnExactPickDimSpec : ChangeSpec := { name := "fnExactPickDim", fn := fun _ => fun
  | [d1, d2, d3] => { results := [.lit (.bool true)], args := [d1, d2, d3] }
  | _ => none }
def fnExactPickDimRow : OpenClaim := { program := "ytbcmhjhiofpnlaa", sum := "2a8d2ffdb954fa53306bff1a0efe63678122261aed259a5bab875b785e23eb40", func := "loop.example/strideviews/laws.FnExactPickDim", spec := "fnExactPickDim", unfollowed := true, recurses := true, apart := false }
def FnExactPickDimSaid : Prop := fnExactPickDimRow.holds Try.pinned (OpenSpec.ofChange fnExactPickDimSpec)

/-- ITS FALSE NEIGHBOUR: 'it returns false'. Refute it at one input. -/
def fnExactPickDimWrong : ChangeSpec := { name := "fnExactPickDim", fn := fun _ => fun
  | [d1, d2, d3] => { results := [.lit (.bool false)], args := [d1, d2, d3] }
  | _ => none }
def FnExactPickDimWrongFalsely : Prop := fnExactPickDimRow.holds Try.pinned (OpenSpec.ofChange fnExactPickDimWrong)

/-- 'laws.FnExactDiagonalOf': WHATEVER THE INPUT: true; the input reads as it did. -/
def fnExactDiagonalOfSpec : ChangeSpec := { name := "fnExactDiagonalOf", fn := fun _ => fun
  | [d1, d2, d3] => { results := [.lit (.bool true)], args := [d1, d2, d3] }
  | _ => none }
def fnExactDiagonalOfRow : OpenClaim := { program := "ytbcmhjhiofpnlaa", sum := "2a8d2ffdb954fa53306bff1a0efe63678122261aed259a5bab875b785e23eb40", func := "loop.example/strideviews/laws.FnExactDiagonalOf", spec := "fnExactDiagonalOf", unfollowed := true, recurses := true, apart := false }
def FnExactDiagonalOfSaid : Prop := fnExactDiagonalOfRow.holds Try.pinned (OpenSpec.ofChange fnExactDiagonalOfSpec)

/-- ITS FALSE NEIGHBOUR: 'it returns false'. Refute it at one input. -/
def fnExactDiagonalOfWrong : ChangeSpec := { name := "fnExactDiagonalOf", fn := fun _ => fun
  | [d1, d2, d3] => { results := [.lit (.bool false)], args := [d1, d2, d3] }
  | _ => none }
def FnExactDiagonalOfWrongFalsely : Prop := fnExactDiagonalOfRow.holds Try.pinned (OpenSpec.ofChange fnExactDiagonalOfWrong)

/-- 'laws.FnExactSpreadTo': WHATEVER THE INPUT: true; the input reads as it did. -/
def fnExactSpreadToSpec : ChangeSpec := { name := "fnExactSpreadTo", fn := fun _ => fun
  | [d1, d2] => { results := [.lit (.bool true)], args := [d1, d2] }
  | _ => none }
def fnExactSpreadToRow : OpenClaim := { program := "ytbcmhjhiofpnlaa", sum := "2a8d2ffdb954fa53306bff1a0efe63678122261aed259a5bab875b785e23eb40", func := "loop.example/strideviews/laws.FnExactSpreadTo", spec := "fnExactSpreadTo", unfollowed := true, recurses := true, apart := false }
def FnExactSpreadToSaid : Prop := fnExactSpreadToRow.holds Try.pinned (OpenSpec.ofChange fnExactSpreadToSpec)

/-- ITS FALSE NEIGHBOUR: 'it returns false'. Refute it at one input. -/
def fnExactSpreadToWrong : ChangeSpec := { name := "fnExactSpreadTo", fn := fun _ => fun
  | [d1, d2] => { results := [.lit (.bool false)], args := [d1, d2] }
  | _ => none }
def FnExactSpreadToWrongFalsely : Prop := fnExactSpreadToRow.holds Try.pinned (OpenSpec.ofChange fnExactSpreadToWrong)

/-- 'laws.FnNewView': WHATEVER THE INPUT: true; the input reads as it did. -/
def fnNewViewSpec : ChangeSpec := { name := "fnNewView", fn := fun _ => fun
  | [d] => { results := [.lit (.bool true)], args := [d] }
  | _ => none }
def fnNewViewRow : OpenClaim := { program := "ytbcmhjhiofpnlaa", sum := "2a8d2ffdb954fa53306bff1a0efe63678122261aed259a5bab875b785e23eb40", func := "loop.example/strideviews/laws.FnNewView", spec := "fnNewView", unfollowed := true, recurses := true, apart := false }
def FnNewViewSaid : Prop := fnNewViewRow.holds Try.pinned (OpenSpec.ofChange fnNewViewSpec)

/-- ITS FALSE NEIGHBOUR: 'it returns false'. Refute it at one input. -/
def fnNewViewWrong : ChangeSpec := { name := "fnNewView", fn := fun _ => fun
  | [d] => { results := [.lit (.bool false)], args := [d] }
  | _ => none }
def FnNewViewWrongFalsely : Prop := fnNewViewRow.holds Try.pinned (OpenSpec.ofChange fnNewViewWrong)

/-- 'laws.FnValidView': WHATEVER THE INPUT: true; the input reads as it did. -/
def fnValidViewSpec : ChangeSpec := { name := "fnValidView", fn := fun _ => fun
  | [d] => { results := [.lit (.bool true)], args := [d] }
  | _ => none }
def fnValidViewRow : OpenClaim := { program := "ytbcmhjhiofpnlaa", sum := "2a8d2ffdb954fa53306bff1a0efe63678122261aed259a5bab875b785e23eb40", func := "loop.example/strideviews/laws.FnValidView", spec := "fnValidView", unfollowed := true, recurses := true, apart := false }
def FnValidViewSaid : Prop := fnValidViewRow.holds Try.pinned (OpenSpec.ofChange fnValidViewSpec)

/-- ITS FALSE NEIGHBOUR: 'it returns false'. Refute it at one input. -/
def fnValidViewWrong : ChangeSpec := { name := "fnValidView", fn := fun _ => fun
  | [d] => { results := [.lit (.bool false)], args := [d] }
  | _ => none }
def FnValidViewWrongFalsely : Prop := fnValidViewRow.holds Try.pinned (OpenSpec.ofChange fnValidViewWrong)

/-- 'laws.FnCommonShape': WHATEVER THE INPUT: true; the input reads as it did. -/
def fnCommonShapeSpec : ChangeSpec := { name := "fnCommonShape", fn := fun _ => fun
  | [d] => { results := [.lit (.bool true)], args := [d] }
  | _ => none }
def fnCommonShapeRow : OpenClaim := { program := "ytbcmhjhiofpnlaa", sum := "2a8d2ffdb954fa53306bff1a0efe63678122261aed259a5bab875b785e23eb40", func := "loop.example/strideviews/laws.FnCommonShape", spec := "fnCommonShape", unfollowed := true, recurses := true, apart := false }
def FnCommonShapeSaid : Prop := fnCommonShapeRow.holds Try.pinned (OpenSpec.ofChange fnCommonShapeSpec)

/-- ITS FALSE NEIGHBOUR: 'it returns false'. Refute it at one input. -/
def fnCommonShapeWrong : ChangeSpec := { name := "fnCommonShape", fn := fun _ => fun
  | [d] => { results := [.lit (.bool false)], args := [d] }
  | _ => none }
def FnCommonShapeWrongFalsely : Prop := fnCommonShapeRow.holds Try.pinned (OpenSpec.ofChange fnCommonShapeWrong)

/-- 'laws.FnMergeSlices': WHATEVER THE INPUT: true; the input reads as it did. -/
def fnMergeSlicesSpec : ChangeSpec := { name := "fnMergeSlices", fn := fun _ => fun
  | [d] => { results := [.lit (.bool true)], args := [d] }
  | _ => none }
def fnMergeSlicesRow : OpenClaim := { program := "ytbcmhjhiofpnlaa", sum := "2a8d2ffdb954fa53306bff1a0efe63678122261aed259a5bab875b785e23eb40", func := "loop.example/strideviews/laws.FnMergeSlices", spec := "fnMergeSlices", apart := false }
def FnMergeSlicesSaid : Prop := fnMergeSlicesRow.holds Try.pinned (OpenSpec.ofChange fnMergeSlicesSpec)

/-- ITS FALSE NEIGHBOUR: 'it returns false'. Refute it at one input. -/
def fnMergeSlicesWrong : ChangeSpec := { name := "fnMergeSlices", fn := fun _ => fun
  | [d] => { results := [.lit (.bool false)], args := [d] }
  | _ => none }
def FnMergeSlicesWrongFalsely : Prop := fnMergeSlicesRow.holds Try.pinned (OpenSpec.ofChange fnMergeSlicesWrong)

/-- 'laws.FnSliceRange': WHATEVER THE INPUT: true; the input reads as it did. -/
def fnSliceRangeSpec : ChangeSpec := { name := "fnSliceRange", fn := fun _ => fun
  | [d] => { results := [.lit (.bool true)], args := [d] }
  | _ => none }
def fnSliceRangeRow : OpenClaim := { program := "ytbcmhjhiofpnlaa", sum := "2a8d2ffdb954fa53306bff1a0efe63678122261aed259a5bab875b785e23eb40", func := "loop.example/strideviews/laws.FnSliceRange", spec := "fnSliceRange", unfollowed := true, recurses := true, apart := false }
def FnSliceRangeSaid : Prop := fnSliceRangeRow.holds Try.pinned (OpenSpec.ofChange fnSliceRangeSpec)

/-- ITS FALSE NEIGHBOUR: 'it returns false'. Refute it at one input. -/
def fnSliceRangeWrong : ChangeSpec := { name := "fnSliceRange", fn := fun _ => fun
  | [d] => { results := [.lit (.bool false)], args := [d] }
  | _ => none }
def FnSliceRangeWrongFalsely : Prop := fnSliceRangeRow.holds Try.pinned (OpenSpec.ofChange fnSliceRangeWrong)

/-- 'laws.FnExactFieldView': WHATEVER THE INPUT: true; the input reads as it did. -/
def fnExactFieldViewSpec : ChangeSpec := { name := "fnExactFieldView", fn := fun _ => fun
  | [d1, d2, d3] => { results := [.lit (.bool true)], args := [d1, d2, d3] }
  | _ => none }
def fnExactFieldViewRow : OpenClaim := { program := "ytbcmhjhiofpnlaa", sum := "2a8d2ffdb954fa53306bff1a0efe63678122261aed259a5bab875b785e23eb40", func := "loop.example/strideviews/laws.FnExactFieldView", spec := "fnExactFieldView", unfollowed := true, recurses := true, apart := false }
def FnExactFieldViewSaid : Prop := fnExactFieldViewRow.holds Try.pinned (OpenSpec.ofChange fnExactFieldViewSpec)

/-- ITS FALSE NEIGHBOUR: 'it returns false'. Refute it at one input. -/
def fnExactFieldViewWrong : ChangeSpec := { name := "fnExactFieldView", fn := fun _ => fun
  | [d1, d2, d3] => { results := [.lit (.bool false)], args := [d1, d2, d3] }
  | _ => none }
def FnExactFieldViewWrongFalsely : Prop := fnExactFieldViewRow.holds Try.pinned (OpenSpec.ofChange fnExactFieldViewWrong)

/-- 'laws.FnPaddingOf': WHATEVER THE INPUT: true; the input reads as it did. -/
def fnPaddingOfSpec : ChangeSpec := { name := "fnPaddingOf", fn := fun _ => fun
  | [d] => { results := [.lit (.bool true)], args := [d] }
  | _ => none }
def fnPaddingOfRow : OpenClaim := { program := "ytbcmhjhiofpnlaa", sum := "2a8d2ffdb954fa53306bff1a0efe63678122261aed259a5bab875b785e23eb40", func := "loop.example/strideviews/laws.FnPaddingOf", spec := "fnPaddingOf", unfollowed := true, recurses := true, apart := false }
def FnPaddingOfSaid : Prop := fnPaddingOfRow.holds Try.pinned (OpenSpec.ofChange fnPaddingOfSpec)

/-- ITS FALSE NEIGHBOUR: 'it returns false'. Refute it at one input. -/
def fnPaddingOfWrong : ChangeSpec := { name := "fnPaddingOf", fn := fun _ => fun
  | [d] => { results := [.lit (.bool false)], args := [d] }
  | _ => none }
def FnPaddingOfWrongFalsely : Prop := fnPaddingOfRow.holds Try.pinned (OpenSpec.ofChange fnPaddingOfWrong)

/- THE SECOND FORM. 'bulk': how many values and letters a reading holds, each counted each time it is reached (what is shared counts as often as it is met; a slice's spare places count too). A statement '..UptoSaid' is the law's where the arguments, and the package variables that the reading takes, are together of bulk at most 1048576: NARROWER than '..Said'. Prove '..Said' where nothing that the law and all that it calls make is longer than what came in: it says more and counts as full. Else prove '..UptoSaid'. A law counts once. -/
mutual
def uptoBulk {H : Type} : DataW H → Nat
  | .lit (.string bytes) => bytes.length + 1
  | .lit _ => 1
  | .nil => 1
  | .ptr d => uptoBulk d + 1
  | .slice elems spare => uptoBulkAll elems + uptoBulkAll spare + 1
  | .agg parts => uptoBulkAll parts + 1
  | .iface _ d => uptoBulk d + 1
  | .map entries => uptoBulkEntries entries + 1
  | .held _ => 1
def uptoBulkAll {H : Type} : List (DataW H) → Nat
  | [] => 0
  | d :: r => uptoBulk d + uptoBulkAll r
def uptoBulkEntries {H : Type} : List (Lit × DataW H) → Nat
  | [] => 0
  | x :: r => uptoBulkEntry x + uptoBulkEntries r
def uptoBulkEntry {H : Type} : Lit × DataW H → Nat
  | (.string bytes, d) => bytes.length + uptoBulk d + 1
  | (_, d) => uptoBulk d + 1
 end
def uptoSmall : (H : Type) → List (DataW H) → Bool := fun _ ds => decide (uptoBulkAll ds ≤ 1048576)
def OpenSpec.upto (s : _root_.Go.ChangeSpec) : _root_.Go.OpenSpec := { _root_.Go.OpenSpec.ofChange s with cond := some uptoSmall }

/-- 'laws.FnExactSliceDim', WHERE WHAT IT READS IS OF BULK AT MOST 1048576: true; the input reads as it did. -/
def fnExactSliceDimUptoRow : OpenClaim := { program := "ytbcmhjhiofpnlaa", sum := "2a8d2ffdb954fa53306bff1a0efe63678122261aed259a5bab875b785e23eb40", func := "loop.example/strideviews/laws.FnExactSliceDim", spec := "fnExactSliceDim", unfollowed := true, recurses := true, apart := false, narrowed := true }
def FnExactSliceDimUptoSaid : Prop := fnExactSliceDimUptoRow.holds Try.pinned (OpenSpec.upto fnExactSliceDimSpec)

/-- 'laws.FnExactFlipDim', WHERE WHAT IT READS IS OF BULK AT MOST 1048576: true; the input reads as it did. -/
def fnExactFlipDimUptoRow : OpenClaim := { program := "ytbcmhjhiofpnlaa", sum := "2a8d2ffdb954fa53306bff1a0efe63678122261aed259a5bab875b785e23eb40", func := "loop.example/strideviews/laws.FnExactFlipDim", spec := "fnExactFlipDim", unfollowed := true, recurses := true, apart := false, narrowed := true }
def FnExactFlipDimUptoSaid : Prop := fnExactFlipDimUptoRow.holds Try.pinned (OpenSpec.upto fnExactFlipDimSpec)

/-- 'laws.FnExactPickDim', WHERE WHAT IT READS IS OF BULK AT MOST 1048576: true; the input reads as it did. -/
def fnExactPickDimUptoRow : OpenClaim := { program := "ytbcmhjhiofpnlaa", sum := "2a8d2ffdb954fa53306bff1a0efe63678122261aed259a5bab875b785e23eb40", func := "loop.example/strideviews/laws.FnExactPickDim", spec := "fnExactPickDim", unfollowed := true, recurses := true, apart := false, narrowed := true }
def FnExactPickDimUptoSaid : Prop := fnExactPickDimUptoRow.holds Try.pinned (OpenSpec.upto fnExactPickDimSpec)

/-- 'laws.FnExactDiagonalOf', WHERE WHAT IT READS IS OF BULK AT MOST 1048576: true; the input reads as it did. -/
def fnExactDiagonalOfUptoRow : OpenClaim := { program := "ytbcmhjhiofpnlaa", sum := "2a8d2ffdb954fa53306bff1a0efe63678122261aed259a5bab875b785e23eb40", func := "loop.example/strideviews/laws.FnExactDiagonalOf", spec := "fnExactDiagonalOf", unfollowed := true, recurses := true, apart := false, narrowed := true }
def FnExactDiagonalOfUptoSaid : Prop := fnExactDiagonalOfUptoRow.holds Try.pinned (OpenSpec.upto fnExactDiagonalOfSpec)

/-- 'laws.FnExactSpreadTo', WHERE WHAT IT READS IS OF BULK AT MOST 1048576: true; the input reads as it did. -/
def fnExactSpreadToUptoRow : OpenClaim := { program := "ytbcmhjhiofpnlaa", sum := "2a8d2ffdb954fa53306bff1a0efe63678122261aed259a5bab875b785e23eb40", func := "loop.example/strideviews/laws.FnExactSpreadTo", spec := "fnExactSpreadTo", unfollowed := true, recurses := true, apart := false, narrowed := true }
def FnExactSpreadToUptoSaid : Prop := fnExactSpreadToUptoRow.holds Try.pinned (OpenSpec.upto fnExactSpreadToSpec)

/-- 'laws.FnNewView', WHERE WHAT IT READS IS OF BULK AT MOST 1048576: true; the input reads as it did. -/
def fnNewViewUptoRow : OpenClaim := { program := "ytbcmhjhiofpnlaa", sum := "2a8d2ffdb954fa53306bff1a0efe63678122261aed259a5bab875b785e23eb40", func := "loop.example/strideviews/laws.FnNewView", spec := "fnNewView", unfollowed := true, recurses := true, apart := false, narrowed := true }
def FnNewViewUptoSaid : Prop := fnNewViewUptoRow.holds Try.pinned (OpenSpec.upto fnNewViewSpec)

/-- 'laws.FnValidView', WHERE WHAT IT READS IS OF BULK AT MOST 1048576: true; the input reads as it did. -/
def fnValidViewUptoRow : OpenClaim := { program := "ytbcmhjhiofpnlaa", sum := "2a8d2ffdb954fa53306bff1a0efe63678122261aed259a5bab875b785e23eb40", func := "loop.example/strideviews/laws.FnValidView", spec := "fnValidView", unfollowed := true, recurses := true, apart := false, narrowed := true }
def FnValidViewUptoSaid : Prop := fnValidViewUptoRow.holds Try.pinned (OpenSpec.upto fnValidViewSpec)

/-- 'laws.FnCommonShape', WHERE WHAT IT READS IS OF BULK AT MOST 1048576: true; the input reads as it did. -/
def fnCommonShapeUptoRow : OpenClaim := { program := "ytbcmhjhiofpnlaa", sum := "2a8d2ffdb954fa53306bff1a0efe63678122261aed259a5bab875b785e23eb40", func := "loop.example/strideviews/laws.FnCommonShape", spec := "fnCommonShape", unfollowed := true, recurses := true, apart := false, narrowed := true }
def FnCommonShapeUptoSaid : Prop := fnCommonShapeUptoRow.holds Try.pinned (OpenSpec.upto fnCommonShapeSpec)

/-- 'laws.FnMergeSlices', WHERE WHAT IT READS IS OF BULK AT MOST 1048576: true; the input reads as it did. -/
def fnMergeSlicesUptoRow : OpenClaim := { program := "ytbcmhjhiofpnlaa", sum := "2a8d2ffdb954fa53306bff1a0efe63678122261aed259a5bab875b785e23eb40", func := "loop.example/strideviews/laws.FnMergeSlices", spec := "fnMergeSlices", apart := false, narrowed := true }
def FnMergeSlicesUptoSaid : Prop := fnMergeSlicesUptoRow.holds Try.pinned (OpenSpec.upto fnMergeSlicesSpec)

/-- 'laws.FnSliceRange', WHERE WHAT IT READS IS OF BULK AT MOST 1048576: true; the input reads as it did. -/
def fnSliceRangeUptoRow : OpenClaim := { program := "ytbcmhjhiofpnlaa", sum := "2a8d2ffdb954fa53306bff1a0efe63678122261aed259a5bab875b785e23eb40", func := "loop.example/strideviews/laws.FnSliceRange", spec := "fnSliceRange", unfollowed := true, recurses := true, apart := false, narrowed := true }
def FnSliceRangeUptoSaid : Prop := fnSliceRangeUptoRow.holds Try.pinned (OpenSpec.upto fnSliceRangeSpec)

/-- 'laws.FnExactFieldView', WHERE WHAT IT READS IS OF BULK AT MOST 1048576: true; the input reads as it did. -/
def fnExactFieldViewUptoRow : OpenClaim := { program := "ytbcmhjhiofpnlaa", sum := "2a8d2ffdb954fa53306bff1a0efe63678122261aed259a5bab875b785e23eb40", func := "loop.example/strideviews/laws.FnExactFieldView", spec := "fnExactFieldView", unfollowed := true, recurses := true, apart := false, narrowed := true }
def FnExactFieldViewUptoSaid : Prop := fnExactFieldViewUptoRow.holds Try.pinned (OpenSpec.upto fnExactFieldViewSpec)

/-- 'laws.FnPaddingOf', WHERE WHAT IT READS IS OF BULK AT MOST 1048576: true; the input reads as it did. -/
def fnPaddingOfUptoRow : OpenClaim := { program := "ytbcmhjhiofpnlaa", sum := "2a8d2ffdb954fa53306bff1a0efe63678122261aed259a5bab875b785e23eb40", func := "loop.example/strideviews/laws.FnPaddingOf", spec := "fnPaddingOf", unfollowed := true, recurses := true, apart := false, narrowed := true }
def FnPaddingOfUptoSaid : Prop := fnPaddingOfUptoRow.holds Try.pinned (OpenSpec.upto fnPaddingOfSpec)

end Rows
end Go.Proofs.Ytbcmhjhiofpnlaa
