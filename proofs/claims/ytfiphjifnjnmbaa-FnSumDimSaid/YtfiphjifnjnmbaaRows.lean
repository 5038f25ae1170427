/-
  No cell of these rows narrows 'for every input' (looked for: loops, veiled, ifaces, maps, wideKeys, modest, calm, conditions, laid).
  DERIVED. THE GIVEN ROWS OF THIS SEAT. 5 by the template 'for every input the law returns true; each argument reads behind the call as it read before'; 0 by the template 'total and deterministic' (their statements: YtfiphjifnjnmbaaTotals.lean).
  GIVEN WITH THE SEED: the statements are not yours to turn. If you find one false, say at which input.
  Laid BY PROGRAM, IN A SANDBOX (cutbox-rows.mjs): the forced cells as the released guide's own fill.sh prints them over the translation db666ab5772f10f0… (all of the seat's roots in one cut). By AI agents, Wed Nov 11 2026. No macro, syntax, notation, axiom, sorry.
-/
import Derived.Test.YtfiphjifnjnmbaaChecked
import GoSem.Claim
import GoSem.ClaimJoined
import GoSem.ClaimMapViews
import Derived.JoinedTies
import Derived.KernelRfl
namespace Go.Proofs.Ytfiphjifnjnmbaa
/- THE CELL 'sum', in the pinned program and in every row, IS THE sha256 OF THE DUMP (.gsa) THAT YtfiphjifnjnmbaaProg.lean LOADS. Nothing in Lean hashes anything: it is a label: what it is worth is what the hold of that sum in a sandbox is worth. -/
noncomputable def Try.pinned : Pinned := { name := "ytfiphjifnjnmbaa", sum := "db666ab5772f10f027ad99e8419f6a946617e524e00519434a0c44092d8abd92", checked := Try.checked }
namespace Rows
def none {H : Type} : Left H := { results := [], args := [] }

/-- 'laws.FnSumDim': WHATEVER THE INPUT: true; the input reads as it did. -/
def fnSumDimSpec : ChangeSpec := { name := "fnSumDim", fn := fun _ => fun
  | [d] => { results := [.lit (.bool true)], args := [d] }
  | _ => none }
def fnSumDimRow : OpenClaim := { program := "ytfiphjifnjnmbaa", sum := "db666ab5772f10f027ad99e8419f6a946617e524e00519434a0c44092d8abd92", func := "loop.example/strideviews/laws.FnSumDim", spec := "fnSumDim", unfollowed := true, recurses := true, apart := false }
def FnSumDimSaid : Prop := fnSumDimRow.holds Try.pinned (OpenSpec.ofChange fnSumDimSpec)

/-- ITS FALSE NEIGHBOUR: 'it returns false'. Refute it at one input. -/
def fnSumDimWrong : ChangeSpec := { name := "fnSumDim", fn := fun _ => fun
  | [d] => { results := [.lit (.bool false)], args := [d] }
  | _ => none }
def FnSumDimWrongFalsely : Prop := fnSumDimRow.holds Try.pinned (OpenSpec.ofChange fnSumDimWrong)

/-- 'laws.FnExactLoadExport': WHATEVER THE INPUT: true; the input reads as it did. -/
def fnExactLoadExportSpec : ChangeSpec := { name := "fnExactLoadExport", fn := fun _ => fun
  | [d1, d2] => { results := [.lit (.bool true)], args := [d1, d2] }
  | _ => none }
def fnExactLoadExportRow : OpenClaim := { program := "ytfiphjifnjnmbaa", sum := "db666ab5772f10f027ad99e8419f6a946617e524e00519434a0c44092d8abd92", func := "loop.example/strideviews/laws.FnExactLoadExport", spec := "fnExactLoadExport", unfollowed := true, recurses := true, apart := false }
def FnExactLoadExportSaid : Prop := fnExactLoadExportRow.holds Try.pinned (OpenSpec.ofChange fnExactLoadExportSpec)

/-- ITS FALSE NEIGHBOUR: 'it returns false'. Refute it at one input. -/
def fnExactLoadExportWrong : ChangeSpec := { name := "fnExactLoadExport", fn := fun _ => fun
  | [d1, d2] => { results := [.lit (.bool false)], args := [d1, d2] }
  | _ => none }
def FnExactLoadExportWrongFalsely : Prop := fnExactLoadExportRow.holds Try.pinned (OpenSpec.ofChange fnExactLoadExportWrong)

/-- 'laws.FnExactValidBuffer': WHATEVER THE INPUT: true; the input reads as it did. -/
def fnExactValidBufferSpec : ChangeSpec := { name := "fnExactValidBuffer", fn := fun _ => fun
  | [d] => { results := [.lit (.bool true)], args := [d] }
  | _ => none }
def fnExactValidBufferRow : OpenClaim := { program := "ytfiphjifnjnmbaa", sum := "db666ab5772f10f027ad99e8419f6a946617e524e00519434a0c44092d8abd92", func := "loop.example/strideviews/laws.FnExactValidBuffer", spec := "fnExactValidBuffer", unfollowed := true, recurses := true, apart := false }
def FnExactValidBufferSaid : Prop := fnExactValidBufferRow.holds Try.pinned (OpenSpec.ofChange fnExactValidBufferSpec)

/-- ITS FALSE NEIGHBOUR: 'it returns false'. Refute it at one input. -/
def fnExactValidBufferWrong : ChangeSpec := { name := "fnExactValidBuffer", fn := fun _ => fun
  | [d] => { results := [.lit (.bool false)], args := [d] }
  | _ => none }
def FnExactValidBufferWrongFalsely : Prop := fnExactValidBufferRow.holds Try.pinned (OpenSpec.ofChange fnExactValidBufferWrong)

/-- 'laws.FnExactOpenOf': WHATEVER THE INPUT: true; the input reads as it did. -/
def fnExactOpenOfSpec : ChangeSpec := { name := "fnExactOpenOf", fn := fun _ => fun
  | [d] => { results := [.lit (.bool true)], args := [d] }
  | _ => none }
def fnExactOpenOfRow : OpenClaim := { program := "ytfiphjifnjnmbaa", sum := "db666ab5772f10f027ad99e8419f6a946617e524e00519434a0c44092d8abd92", func := "loop.example/strideviews/laws.FnExactOpenOf", spec := "fnExactOpenOf", unfollowed := true, recurses := true, apart := false }
def FnExactOpenOfSaid : Prop := fnExactOpenOfRow.holds Try.pinned (OpenSpec.ofChange fnExactOpenOfSpec)

/-- ITS FALSE NEIGHBOUR: 'it returns false'. Refute it at one input. -/
def fnExactOpenOfWrong : ChangeSpec := { name := "fnExactOpenOf", fn := fun _ => fun
  | [d] => { results := [.lit (.bool false)], args := [d] }
  | _ => none }
def FnExactOpenOfWrongFalsely : Prop := fnExactOpenOfRow.holds Try.pinned (OpenSpec.ofChange fnExactOpenOfWrong)

/-- 'laws.FnExactKidsOf': WHATEVER THE INPUT: true; the input reads as it did. -/
def fnExactKidsOfSpec : ChangeSpec := { name := "fnExactKidsOf", fn := fun _ => fun
  | [d1, d2] => { results := [.lit (.bool true)], args := [d1, d2] }
  | _ => none }
def fnExactKidsOfRow : OpenClaim := { program := "ytfiphjifnjnmbaa", sum := "db666ab5772f10f027ad99e8419f6a946617e524e00519434a0c44092d8abd92", func := "loop.example/strideviews/laws.FnExactKidsOf", spec := "fnExactKidsOf", unfollowed := true, recurses := true, apart := false }
def FnExactKidsOfSaid : Prop := fnExactKidsOfRow.holds Try.pinned (OpenSpec.ofChange fnExactKidsOfSpec)

/-- ITS FALSE NEIGHBOUR: 'it returns false'. Refute it at one input. -/
def fnExactKidsOfWrong : ChangeSpec := { name := "fnExactKidsOf", fn := fun _ => fun
  | [d1, d2] => { results := [.lit (.bool false)], args := [d1, d2] }
  | _ => none }
def FnExactKidsOfWrongFalsely : Prop := fnExactKidsOfRow.holds Try.pinned (OpenSpec.ofChange fnExactKidsOfWrong)

/- THE SECOND FORM. 'bulk': how many values and letters a reading holds, each counted each time it is reached (what is shared counts as often as it is met; a slice's spare places count too). A statement '..UptoSaid' is the law's where the arguments, and the package variables that the reading takes, are together of bulk at most 1048576: NARROWER than '..Said'. Prove '..Said' where nothing that the law and all that it calls make is longer than what came in: it says more and counts as full. Else prove '..UptoSaid'. A law counts once. -/
mutual
def uptoBulk {H : Type} : DataW H → Nat
  | .lit (.string bytes) => bytes.length + 1
  | .lit _ => 1
  | .nil => 1
  | .ptr d => uptoBulk d + 1
  | .slice elems spare => uptoBulkAll elems + uptoBulkAll spare + 1
  | .agg parts => uptoBulkAll parts + 1
  | .iface _ d => uptoBulk d + 1
  | .map entries => uptoBulkEntries entries + 1
  | .held _ => 1
def uptoBulkAll {H : Type} : List (DataW H) → Nat
  | [] => 0
  | d :: r => uptoBulk d + uptoBulkAll r
def uptoBulkEntries {H : Type} : List (Lit × DataW H) → Nat
  | [] => 0
  | x :: r => uptoBulkEntry x + uptoBulkEntries r
def uptoBulkEntry {H : Type} : Lit × DataW H → Nat
  | (.string bytes, d) => bytes.length + uptoBulk d + 1
  | (_, d) => uptoBulk d + 1
 end
def uptoSmall : (H : Type) → List (DataW H) → Bool := fun _ ds => decide (uptoBulkAll ds ≤ 1048576)
def OpenSpec.upto (s : _root_.Go.ChangeSpec) : _root_.Go.OpenSpec := { _root_.Go.OpenSpec.ofChange s with cond := some uptoSmall }

/-- 'laws.FnSumDim', WHERE WHAT IT READS IS OF BULK AT MOST 1048576: true; the input reads as it did. -/
def fnSumDimUptoRow : OpenClaim := { program := "ytfiphjifnjnmbaa", sum := "db666ab5772f10f027ad99e8419f6a946617e524e00519434a0c44092d8abd92", func := "loop.example/strideviews/laws.FnSumDim", spec := "fnSumDim", unfollowed := true, recurses := true, apart := false, narrowed := true }
def FnSumDimUptoSaid : Prop := fnSumDimUptoRow.holds Try.pinned (OpenSpec.upto fnSumDimSpec)

/-- 'laws.FnExactLoadExport', WHERE WHAT IT READS IS OF BULK AT MOST 1048576: true; the input reads as it did. -/
def fnExactLoadExportUptoRow : OpenClaim := { program := "ytfiphjifnjnmbaa", sum := "db666ab5772f10f027ad99e8419f6a946617e524e00519434a0c44092d8abd92", func := "loop.example/strideviews/laws.FnExactLoadExport", spec := "fnExactLoadExport", unfollowed := true, recurses := true, apart := false, narrowed := true }
def FnExactLoadExportUptoSaid : Prop := fnExactLoadExportUptoRow.holds Try.pinned (OpenSpec.upto fnExactLoadExportSpec)

/-- 'laws.FnExactValidBuffer', WHERE WHAT IT READS IS OF BULK AT MOST 1048576: true; the input reads as it did. -/
def fnExactValidBufferUptoRow : OpenClaim := { program := "ytfiphjifnjnmbaa", sum := "db666ab5772f10f027ad99e8419f6a946617e524e00519434a0c44092d8abd92", func := "loop.example/strideviews/laws.FnExactValidBuffer", spec := "fnExactValidBuffer", unfollowed := true, recurses := true, apart := false, narrowed := true }
def FnExactValidBufferUptoSaid : Prop := fnExactValidBufferUptoRow.holds Try.pinned (OpenSpec.upto fnExactValidBufferSpec)

/-- 'laws.FnExactOpenOf', WHERE WHAT IT READS IS OF BULK AT MOST 1048576: true; the input reads as it did. -/
def fnExactOpenOfUptoRow : OpenClaim := { program := "ytfiphjifnjnmbaa", sum := "db666ab5772f10f027ad99e8419f6a946617e524e00519434a0c44092d8abd92", func := "loop.example/strideviews/laws.FnExactOpenOf", spec := "fnExactOpenOf", unfollowed := true, recurses := true, apart := false, narrowed := true }
def FnExactOpenOfUptoSaid : Prop := fnExactOpenOfUptoRow.holds Try.pinned (OpenSpec.upto fnExactOpenOfSpec)

/-- 'laws.FnExactKidsOf', WHERE WHAT IT READS IS OF BULK AT MOST 1048576: true; the input reads as it did. -/
def fnExactKidsOfUptoRow : OpenClaim := { program := "ytfiphjifnjnmbaa", sum := "db666ab5772f10f027ad99e8419f6a946617e524e00519434a0c44092d8abd92", func := "loop.example/strideviews/laws.FnExactKidsOf", spec := "fnExactKidsOf", unfollowed := true, recurses := true, apart := false, narrowed := true }
def FnExactKidsOfUptoSaid : Prop := fnExactKidsOfUptoRow.holds Try.pinned (OpenSpec.upto fnExactKidsOfSpec)

end Rows
end Go.Proofs.Ytfiphjifnjnmbaa
