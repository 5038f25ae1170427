/-
  No cell of these rows narrows 'for every input' (looked for: loops, veiled, ifaces, maps, wideKeys, modest, calm, conditions, laid).
  DERIVED. THE GIVEN ROWS OF THIS SEAT. 12 by the template 'for every input the law returns true; each argument reads behind the call as it read before'; 0 by the template 'total and deterministic' (their statements: YtonlhphgoedcnaaTotals.lean).
  GIVEN WITH THE SEED: the statements are not yours to turn. If you find one false, say at which input.
  Laid BY PROGRAM, IN A SANDBOX (cutbox-rows.mjs): the forced cells as the released guide's own fill.sh prints them over the translation 9d2bae56492fb951… (all of the seat's roots in one cut). By AI agents, Wed Nov 11 2026. No macro, syntax, notation, axiom, sorry.
-/
import Derived.Test.YtonlhphgoedcnaaChecked
import GoSem.Claim
import GoSem.ClaimJoined
import GoSem.ClaimMapViews
import Derived.JoinedTies
import Derived.KernelRfl
namespace Go.Proofs.Ytonlhphgoedcnaa
/- THE CELL 'sum', in the pinned program and in every row, IS THE sha256 OF THE DUMP (.gsa) THAT YtonlhphgoedcnaaProg.lean LOADS. Nothing in Lean hashes anything: it is a label: what it is worth is what the hold of that sum in a sandbox is worth. -/
noncomputable def Try.pinned : Pinned := { name := "ytonlhphgoedcnaa", sum := "9d2bae56492fb951a0f251bcfa439d389b11d38dceaac3561e340a6866834817", checked := Try.checked }
namespace Rows
def none {H : Type} : Left H := { results := [], args := [] }

/-- 'laws.FnExactFieldView': WHATEVER THE INPUT: true; the input reads as it did. -/
def fnExactFieldViewSpec : ChangeSpec := { name := "fnExactFieldView", fn := fun _ => fun
  | [d1, d2, d3] => { results := [.lit (.bool true)], args := [d1, d2, d3] }
  | _ => none }
def fnExactFieldViewRow : OpenClaim := { program := "ytonlhphgoedcnaa", sum := "9d2bae56492fb951a0f251bcfa439d389b11d38dceaac3561e340a6866834817", func := "loop.example/strideviews/laws.FnExactFieldView", spec := "fnExactFieldView", unfollowed := true, recurses := true, apart := false }
def FnExactFieldViewSaid : Prop := fnExactFieldViewRow.holds Try.pinned (OpenSpec.ofChange fnExactFieldViewSpec)

/-- ITS FALSE NEIGHBOUR: 'it returns false'. Refute it at one input. -/
def fnExactFieldViewWrong : ChangeSpec := { name := "fnExactFieldView", fn := fun _ => fun
  | [d1, d2, d3] => { results := [.lit (.bool false)], args := [d1, d2, d3] }
  | _ => none }
def FnExactFieldViewWrongFalsely : Prop := fnExactFieldViewRow.holds Try.pinned (OpenSpec.ofChange fnExactFieldViewWrong)

/-- 'laws.FnExactPaddingOf': WHATEVER THE INPUT: true; the input reads as it did. -/
def fnExactPaddingOfSpec : ChangeSpec := { name := "fnExactPaddingOf", fn := fun _ => fun
  | [d] => { results := [.lit (.bool true)], args := [d] }
  | _ => none }
def fnExactPaddingOfRow : OpenClaim := { program := "ytonlhphgoedcnaa", sum := "9d2bae56492fb951a0f251bcfa439d389b11d38dceaac3561e340a6866834817", func := "loop.example/strideviews/laws.FnExactPaddingOf", spec := "fnExactPaddingOf", unfollowed := true, recurses := true, apart := false }
def FnExactPaddingOfSaid : Prop := fnExactPaddingOfRow.holds Try.pinned (OpenSpec.ofChange fnExactPaddingOfSpec)

/-- ITS FALSE NEIGHBOUR: 'it returns false'. Refute it at one input. -/
def fnExactPaddingOfWrong : ChangeSpec := { name := "fnExactPaddingOf", fn := fun _ => fun
  | [d] => { results := [.lit (.bool false)], args := [d] }
  | _ => none }
def FnExactPaddingOfWrongFalsely : Prop := fnExactPaddingOfRow.holds Try.pinned (OpenSpec.ofChange fnExactPaddingOfWrong)

/-- 'laws.FnExactUnpackItem': WHATEVER THE INPUT: true; the input reads as it did. -/
def fnExactUnpackItemSpec : ChangeSpec := { name := "fnExactUnpackItem", fn := fun _ => fun
  | [d1, d2] => { results := [.lit (.bool true)], args := [d1, d2] }
  | _ => none }
def fnExactUnpackItemRow : OpenClaim := { program := "ytonlhphgoedcnaa", sum := "9d2bae56492fb951a0f251bcfa439d389b11d38dceaac3561e340a6866834817", func := "loop.example/strideviews/laws.FnExactUnpackItem", spec := "fnExactUnpackItem", unfollowed := true, recurses := true, apart := false }
def FnExactUnpackItemSaid : Prop := fnExactUnpackItemRow.holds Try.pinned (OpenSpec.ofChange fnExactUnpackItemSpec)

/-- ITS FALSE NEIGHBOUR: 'it returns false'. Refute it at one input. -/
def fnExactUnpackItemWrong : ChangeSpec := { name := "fnExactUnpackItem", fn := fun _ => fun
  | [d1, d2] => { results := [.lit (.bool false)], args := [d1, d2] }
  | _ => none }
def FnExactUnpackItemWrongFalsely : Prop := fnExactUnpackItemRow.holds Try.pinned (OpenSpec.ofChange fnExactUnpackItemWrong)

/-- 'laws.FnExactPackItem': WHATEVER THE INPUT: true; the input reads as it did. -/
def fnExactPackItemSpec : ChangeSpec := { name := "fnExactPackItem", fn := fun _ => fun
  | [d1, d2] => { results := [.lit (.bool true)], args := [d1, d2] }
  | _ => none }
def fnExactPackItemRow : OpenClaim := { program := "ytonlhphgoedcnaa", sum := "9d2bae56492fb951a0f251bcfa439d389b11d38dceaac3561e340a6866834817", func := "loop.example/strideviews/laws.FnExactPackItem", spec := "fnExactPackItem", unfollowed := true, recurses := true, apart := false }
def FnExactPackItemSaid : Prop := fnExactPackItemRow.holds Try.pinned (OpenSpec.ofChange fnExactPackItemSpec)

/-- ITS FALSE NEIGHBOUR: 'it returns false'. Refute it at one input. -/
def fnExactPackItemWrong : ChangeSpec := { name := "fnExactPackItem", fn := fun _ => fun
  | [d1, d2] => { results := [.lit (.bool false)], args := [d1, d2] }
  | _ => none }
def FnExactPackItemWrongFalsely : Prop := fnExactPackItemRow.holds Try.pinned (OpenSpec.ofChange fnExactPackItemWrong)

/-- 'laws.FnExactTensorOf': WHATEVER THE INPUT: true; the input reads as it did. -/
def fnExactTensorOfSpec : ChangeSpec := { name := "fnExactTensorOf", fn := fun _ => fun
  | [d1, d2] => { results := [.lit (.bool true)], args := [d1, d2] }
  | _ => none }
def fnExactTensorOfRow : OpenClaim := { program := "ytonlhphgoedcnaa", sum := "9d2bae56492fb951a0f251bcfa439d389b11d38dceaac3561e340a6866834817", func := "loop.example/strideviews/laws.FnExactTensorOf", spec := "fnExactTensorOf", unfollowed := true, recurses := true, apart := false }
def FnExactTensorOfSaid : Prop := fnExactTensorOfRow.holds Try.pinned (OpenSpec.ofChange fnExactTensorOfSpec)

/-- ITS FALSE NEIGHBOUR: 'it returns false'. Refute it at one input. -/
def fnExactTensorOfWrong : ChangeSpec := { name := "fnExactTensorOf", fn := fun _ => fun
  | [d1, d2] => { results := [.lit (.bool false)], args := [d1, d2] }
  | _ => none }
def FnExactTensorOfWrongFalsely : Prop := fnExactTensorOfRow.holds Try.pinned (OpenSpec.ofChange fnExactTensorOfWrong)

/-- 'laws.FnExactAddDim': WHATEVER THE INPUT: true; the input reads as it did. -/
def fnExactAddDimSpec : ChangeSpec := { name := "fnExactAddDim", fn := fun _ => fun
  | [d1, d2] => { results := [.lit (.bool true)], args := [d1, d2] }
  | _ => none }
def fnExactAddDimRow : OpenClaim := { program := "ytonlhphgoedcnaa", sum := "9d2bae56492fb951a0f251bcfa439d389b11d38dceaac3561e340a6866834817", func := "loop.example/strideviews/laws.FnExactAddDim", spec := "fnExactAddDim", inPlace := ["slices.overlaps[int]"], unfollowed := true, recurses := true, apart := false }
def FnExactAddDimSaid : Prop := fnExactAddDimRow.holds Try.pinned (OpenSpec.ofChange fnExactAddDimSpec)

/-- ITS FALSE NEIGHBOUR: 'it returns false'. Refute it at one input. -/
def fnExactAddDimWrong : ChangeSpec := { name := "fnExactAddDim", fn := fun _ => fun
  | [d1, d2] => { results := [.lit (.bool false)], args := [d1, d2] }
  | _ => none }
def FnExactAddDimWrongFalsely : Prop := fnExactAddDimRow.holds Try.pinned (OpenSpec.ofChange fnExactAddDimWrong)

/-- 'laws.FnExactTurnTensor': WHATEVER THE INPUT: true; the input reads as it did. -/
def fnExactTurnTensorSpec : ChangeSpec := { name := "fnExactTurnTensor", fn := fun _ => fun
  | [d1, d2] => { results := [.lit (.bool true)], args := [d1, d2] }
  | _ => none }
def fnExactTurnTensorRow : OpenClaim := { program := "ytonlhphgoedcnaa", sum := "9d2bae56492fb951a0f251bcfa439d389b11d38dceaac3561e340a6866834817", func := "loop.example/strideviews/laws.FnExactTurnTensor", spec := "fnExactTurnTensor", unfollowed := true, recurses := true, apart := false }
def FnExactTurnTensorSaid : Prop := fnExactTurnTensorRow.holds Try.pinned (OpenSpec.ofChange fnExactTurnTensorSpec)

/-- ITS FALSE NEIGHBOUR: 'it returns false'. Refute it at one input. -/
def fnExactTurnTensorWrong : ChangeSpec := { name := "fnExactTurnTensor", fn := fun _ => fun
  | [d1, d2] => { results := [.lit (.bool false)], args := [d1, d2] }
  | _ => none }
def FnExactTurnTensorWrongFalsely : Prop := fnExactTurnTensorRow.holds Try.pinned (OpenSpec.ofChange fnExactTurnTensorWrong)

/-- 'laws.FnExactSumDim': WHATEVER THE INPUT: true; the input reads as it did. -/
def fnExactSumDimSpec : ChangeSpec := { name := "fnExactSumDim", fn := fun _ => fun
  | [d1, d2] => { results := [.lit (.bool true)], args := [d1, d2] }
  | _ => none }
def fnExactSumDimRow : OpenClaim := { program := "ytonlhphgoedcnaa", sum := "9d2bae56492fb951a0f251bcfa439d389b11d38dceaac3561e340a6866834817", func := "loop.example/strideviews/laws.FnExactSumDim", spec := "fnExactSumDim", unfollowed := true, recurses := true, apart := false }
def FnExactSumDimSaid : Prop := fnExactSumDimRow.holds Try.pinned (OpenSpec.ofChange fnExactSumDimSpec)

/-- ITS FALSE NEIGHBOUR: 'it returns false'. Refute it at one input. -/
def fnExactSumDimWrong : ChangeSpec := { name := "fnExactSumDim", fn := fun _ => fun
  | [d1, d2] => { results := [.lit (.bool false)], args := [d1, d2] }
  | _ => none }
def FnExactSumDimWrongFalsely : Prop := fnExactSumDimRow.holds Try.pinned (OpenSpec.ofChange fnExactSumDimWrong)

/-- 'laws.FnExactHoldersOf': WHATEVER THE INPUT: true; the input reads as it did. -/
def fnExactHoldersOfSpec : ChangeSpec := { name := "fnExactHoldersOf", fn := fun _ => fun
  | [d1, d2] => { results := [.lit (.bool true)], args := [d1, d2] }
  | _ => none }
def fnExactHoldersOfRow : OpenClaim := { program := "ytonlhphgoedcnaa", sum := "9d2bae56492fb951a0f251bcfa439d389b11d38dceaac3561e340a6866834817", func := "loop.example/strideviews/laws.FnExactHoldersOf", spec := "fnExactHoldersOf", unfollowed := true, recurses := true, apart := false }
def FnExactHoldersOfSaid : Prop := fnExactHoldersOfRow.holds Try.pinned (OpenSpec.ofChange fnExactHoldersOfSpec)

/-- ITS FALSE NEIGHBOUR: 'it returns false'. Refute it at one input. -/
def fnExactHoldersOfWrong : ChangeSpec := { name := "fnExactHoldersOf", fn := fun _ => fun
  | [d1, d2] => { results := [.lit (.bool false)], args := [d1, d2] }
  | _ => none }
def FnExactHoldersOfWrongFalsely : Prop := fnExactHoldersOfRow.holds Try.pinned (OpenSpec.ofChange fnExactHoldersOfWrong)

/-- 'laws.FnExactPackAll': WHATEVER THE INPUT: true; the input reads as it did. -/
def fnExactPackAllSpec : ChangeSpec := { name := "fnExactPackAll", fn := fun _ => fun
  | [d1, d2] => { results := [.lit (.bool true)], args := [d1, d2] }
  | _ => none }
def fnExactPackAllRow : OpenClaim := { program := "ytonlhphgoedcnaa", sum := "9d2bae56492fb951a0f251bcfa439d389b11d38dceaac3561e340a6866834817", func := "loop.example/strideviews/laws.FnExactPackAll", spec := "fnExactPackAll", unfollowed := true, recurses := true, apart := false }
def FnExactPackAllSaid : Prop := fnExactPackAllRow.holds Try.pinned (OpenSpec.ofChange fnExactPackAllSpec)

/-- ITS FALSE NEIGHBOUR: 'it returns false'. Refute it at one input. -/
def fnExactPackAllWrong : ChangeSpec := { name := "fnExactPackAll", fn := fun _ => fun
  | [d1, d2] => { results := [.lit (.bool false)], args := [d1, d2] }
  | _ => none }
def FnExactPackAllWrongFalsely : Prop := fnExactPackAllRow.holds Try.pinned (OpenSpec.ofChange fnExactPackAllWrong)

/-- 'laws.FnExactUnpackAll': WHATEVER THE INPUT: true; the input reads as it did. -/
def fnExactUnpackAllSpec : ChangeSpec := { name := "fnExactUnpackAll", fn := fun _ => fun
  | [d1, d2] => { results := [.lit (.bool true)], args := [d1, d2] }
  | _ => none }
def fnExactUnpackAllRow : OpenClaim := { program := "ytonlhphgoedcnaa", sum := "9d2bae56492fb951a0f251bcfa439d389b11d38dceaac3561e340a6866834817", func := "loop.example/strideviews/laws.FnExactUnpackAll", spec := "fnExactUnpackAll", unfollowed := true, recurses := true, apart := false }
def FnExactUnpackAllSaid : Prop := fnExactUnpackAllRow.holds Try.pinned (OpenSpec.ofChange fnExactUnpackAllSpec)

/-- ITS FALSE NEIGHBOUR: 'it returns false'. Refute it at one input. -/
def fnExactUnpackAllWrong : ChangeSpec := { name := "fnExactUnpackAll", fn := fun _ => fun
  | [d1, d2] => { results := [.lit (.bool false)], args := [d1, d2] }
  | _ => none }
def FnExactUnpackAllWrongFalsely : Prop := fnExactUnpackAllRow.holds Try.pinned (OpenSpec.ofChange fnExactUnpackAllWrong)

/-- 'laws.FnExactSwapBytes': WHATEVER THE INPUT: true; the input reads as it did. -/
def fnExactSwapBytesSpec : ChangeSpec := { name := "fnExactSwapBytes", fn := fun _ => fun
  | [d1, d2] => { results := [.lit (.bool true)], args := [d1, d2] }
  | _ => none }
def fnExactSwapBytesRow : OpenClaim := { program := "ytonlhphgoedcnaa", sum := "9d2bae56492fb951a0f251bcfa439d389b11d38dceaac3561e340a6866834817", func := "loop.example/strideviews/laws.FnExactSwapBytes", spec := "fnExactSwapBytes", unfollowed := true, recurses := true, apart := false }
def FnExactSwapBytesSaid : Prop := fnExactSwapBytesRow.holds Try.pinned (OpenSpec.ofChange fnExactSwapBytesSpec)

/-- ITS FALSE NEIGHBOUR: 'it returns false'. Refute it at one input. -/
def fnExactSwapBytesWrong : ChangeSpec := { name := "fnExactSwapBytes", fn := fun _ => fun
  | [d1, d2] => { results := [.lit (.bool false)], args := [d1, d2] }
  | _ => none }
def FnExactSwapBytesWrongFalsely : Prop := fnExactSwapBytesRow.holds Try.pinned (OpenSpec.ofChange fnExactSwapBytesWrong)

/- THE SECOND FORM. 'bulk': how many values and letters a reading holds, each counted each time it is reached (what is shared counts as often as it is met; a slice's spare places count too). A statement '..UptoSaid' is the law's where the arguments, and the package variables that the reading takes, are together of bulk at most 1048576: NARROWER than '..Said'. Prove '..Said' where nothing that the law and all that it calls make is longer than what came in: it says more and counts as full. Else prove '..UptoSaid'. A law counts once. -/
mutual
def uptoBulk {H : Type} : DataW H → Nat
  | .lit (.string bytes) => bytes.length + 1
  | .lit _ => 1
  | .nil => 1
  | .ptr d => uptoBulk d + 1
  | .slice elems spare => uptoBulkAll elems + uptoBulkAll spare + 1
  | .agg parts => uptoBulkAll parts + 1
  | .iface _ d => uptoBulk d + 1
  | .map entries => uptoBulkEntries entries + 1
  | .held _ => 1
def uptoBulkAll {H : Type} : List (DataW H) → Nat
  | [] => 0
  | d :: r => uptoBulk d + uptoBulkAll r
def uptoBulkEntries {H : Type} : List (Lit × DataW H) → Nat
  | [] => 0
  | x :: r => uptoBulkEntry x + uptoBulkEntries r
def uptoBulkEntry {H : Type} : Lit × DataW H → Nat
  | (.string bytes, d) => bytes.length + uptoBulk d + 1
  | (_, d) => uptoBulk d + 1
 end
def uptoSmall : (H : Type) → List (DataW H) → Bool := fun _ ds => decide (uptoBulkAll ds ≤ 1048576)
def OpenSpec.upto (s : _root_.Go.ChangeSpec) : _root_.Go.OpenSpec := { _root_.Go.OpenSpec.ofChange s with cond := some uptoSmall }

/-- 'laws.FnExactFieldView', WHERE WHAT IT READS IS OF BULK AT MOST 1048576: true; the input reads as it did. -/
def fnExactFieldViewUptoRow : OpenClaim := { program := "ytonlhphgoedcnaa", sum := "9d2bae56492fb951a0f251bcfa439d389b11d38dceaac3561e340a6866834817", func := "loop.example/strideviews/laws.FnExactFieldView", spec := "fnExactFieldView", unfollowed := true, recurses := true, apart := false, narrowed := true }
def FnExactFieldViewUptoSaid : Prop := fnExactFieldViewUptoRow.holds Try.pinned (OpenSpec.upto fnExactFieldViewSpec)

/-- 'laws.FnExactPaddingOf', WHERE WHAT IT READS IS OF BULK AT MOST 1048576: true; the input reads as it did. -/
def fnExactPaddingOfUptoRow : OpenClaim := { program := "ytonlhphgoedcnaa", sum := "9d2bae56492fb951a0f251bcfa439d389b11d38dceaac3561e340a6866834817", func := "loop.example/strideviews/laws.FnExactPaddingOf", spec := "fnExactPaddingOf", unfollowed := true, recurses := true, apart := false, narrowed := true }
def FnExactPaddingOfUptoSaid : Prop := fnExactPaddingOfUptoRow.holds Try.pinned (OpenSpec.upto fnExactPaddingOfSpec)

/-- 'laws.FnExactUnpackItem', WHERE WHAT IT READS IS OF BULK AT MOST 1048576: true; the input reads as it did. -/
def fnExactUnpackItemUptoRow : OpenClaim := { program := "ytonlhphgoedcnaa", sum := "9d2bae56492fb951a0f251bcfa439d389b11d38dceaac3561e340a6866834817", func := "loop.example/strideviews/laws.FnExactUnpackItem", spec := "fnExactUnpackItem", unfollowed := true, recurses := true, apart := false, narrowed := true }
def FnExactUnpackItemUptoSaid : Prop := fnExactUnpackItemUptoRow.holds Try.pinned (OpenSpec.upto fnExactUnpackItemSpec)

/-- 'laws.FnExactPackItem', WHERE WHAT IT READS IS OF BULK AT MOST 1048576: true; the input reads as it did. -/
def fnExactPackItemUptoRow : OpenClaim := { program := "ytonlhphgoedcnaa", sum := "9d2bae56492fb951a0f251bcfa439d389b11d38dceaac3561e340a6866834817", func := "loop.example/strideviews/laws.FnExactPackItem", spec := "fnExactPackItem", unfollowed := true, recurses := true, apart := false, narrowed := true }
def FnExactPackItemUptoSaid : Prop := fnExactPackItemUptoRow.holds Try.pinned (OpenSpec.upto fnExactPackItemSpec)

/-- 'laws.FnExactTensorOf', WHERE WHAT IT READS IS OF BULK AT MOST 1048576: true; the input reads as it did. -/
def fnExactTensorOfUptoRow : OpenClaim := { program := "ytonlhphgoedcnaa", sum := "9d2bae56492fb951a0f251bcfa439d389b11d38dceaac3561e340a6866834817", func := "loop.example/strideviews/laws.FnExactTensorOf", spec := "fnExactTensorOf", unfollowed := true, recurses := true, apart := false, narrowed := true }
def FnExactTensorOfUptoSaid : Prop := fnExactTensorOfUptoRow.holds Try.pinned (OpenSpec.upto fnExactTensorOfSpec)

/-- 'laws.FnExactAddDim', WHERE WHAT IT READS IS OF BULK AT MOST 1048576: true; the input reads as it did. -/
def fnExactAddDimUptoRow : OpenClaim := { program := "ytonlhphgoedcnaa", sum := "9d2bae56492fb951a0f251bcfa439d389b11d38dceaac3561e340a6866834817", func := "loop.example/strideviews/laws.FnExactAddDim", spec := "fnExactAddDim", inPlace := ["slices.overlaps[int]"], unfollowed := true, recurses := true, apart := false, narrowed := true }
def FnExactAddDimUptoSaid : Prop := fnExactAddDimUptoRow.holds Try.pinned (OpenSpec.upto fnExactAddDimSpec)

/-- 'laws.FnExactTurnTensor', WHERE WHAT IT READS IS OF BULK AT MOST 1048576: true; the input reads as it did. -/
def fnExactTurnTensorUptoRow : OpenClaim := { program := "ytonlhphgoedcnaa", sum := "9d2bae56492fb951a0f251bcfa439d389b11d38dceaac3561e340a6866834817", func := "loop.example/strideviews/laws.FnExactTurnTensor", spec := "fnExactTurnTensor", unfollowed := true, recurses := true, apart := false, narrowed := true }
def FnExactTurnTensorUptoSaid : Prop := fnExactTurnTensorUptoRow.holds Try.pinned (OpenSpec.upto fnExactTurnTensorSpec)

/-- 'laws.FnExactSumDim', WHERE WHAT IT READS IS OF BULK AT MOST 1048576: true; the input reads as it did. -/
def fnExactSumDimUptoRow : OpenClaim := { program := "ytonlhphgoedcnaa", sum := "9d2bae56492fb951a0f251bcfa439d389b11d38dceaac3561e340a6866834817", func := "loop.example/strideviews/laws.FnExactSumDim", spec := "fnExactSumDim", unfollowed := true, recurses := true, apart := false, narrowed := true }
def FnExactSumDimUptoSaid : Prop := fnExactSumDimUptoRow.holds Try.pinned (OpenSpec.upto fnExactSumDimSpec)

/-- 'laws.FnExactHoldersOf', WHERE WHAT IT READS IS OF BULK AT MOST 1048576: true; the input reads as it did. -/
def fnExactHoldersOfUptoRow : OpenClaim := { program := "ytonlhphgoedcnaa", sum := "9d2bae56492fb951a0f251bcfa439d389b11d38dceaac3561e340a6866834817", func := "loop.example/strideviews/laws.FnExactHoldersOf", spec := "fnExactHoldersOf", unfollowed := true, recurses := true, apart := false, narrowed := true }
def FnExactHoldersOfUptoSaid : Prop := fnExactHoldersOfUptoRow.holds Try.pinned (OpenSpec.upto fnExactHoldersOfSpec)

/-- 'laws.FnExactPackAll', WHERE WHAT IT READS IS OF BULK AT MOST 1048576: true; the input reads as it did. -/
def fnExactPackAllUptoRow : OpenClaim := { program := "ytonlhphgoedcnaa", sum := "9d2bae56492fb951a0f251bcfa439d389b11d38dceaac3561e340a6866834817", func := "loop.example/strideviews/laws.FnExactPackAll", spec := "fnExactPackAll", unfollowed := true, recurses := true, apart := false, narrowed := true }
def FnExactPackAllUptoSaid : Prop := fnExactPackAllUptoRow.holds Try.pinned (OpenSpec.upto fnExactPackAllSpec)

/-- 'laws.FnExactUnpackAll', WHERE WHAT IT READS IS OF BULK AT MOST 1048576: true; the input reads as it did. -/
def fnExactUnpackAllUptoRow : OpenClaim := { program := "ytonlhphgoedcnaa", sum := "9d2bae56492fb951a0f251bcfa439d389b11d38dceaac3561e340a6866834817", func := "loop.example/strideviews/laws.FnExactUnpackAll", spec := "fnExactUnpackAll", unfollowed := true, recurses := true, apart := false, narrowed := true }
def FnExactUnpackAllUptoSaid : Prop := fnExactUnpackAllUptoRow.holds Try.pinned (OpenSpec.upto fnExactUnpackAllSpec)

/-- 'laws.FnExactSwapBytes', WHERE WHAT IT READS IS OF BULK AT MOST 1048576: true; the input reads as it did. -/
def fnExactSwapBytesUptoRow : OpenClaim := { program := "ytonlhphgoedcnaa", sum := "9d2bae56492fb951a0f251bcfa439d389b11d38dceaac3561e340a6866834817", func := "loop.example/strideviews/laws.FnExactSwapBytes", spec := "fnExactSwapBytes", unfollowed := true, recurses := true, apart := false, narrowed := true }
def FnExactSwapBytesUptoSaid : Prop := fnExactSwapBytesUptoRow.holds Try.pinned (OpenSpec.upto fnExactSwapBytesSpec)

end Rows
end Go.Proofs.Ytonlhphgoedcnaa
