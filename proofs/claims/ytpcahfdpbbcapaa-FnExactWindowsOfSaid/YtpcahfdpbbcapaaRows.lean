/-
  No cell of these rows narrows 'for every input' (looked for: loops, veiled, ifaces, maps, wideKeys, modest, calm, conditions, laid).
  DERIVED. THE GIVEN ROWS OF THIS SEAT. 12 by the template 'for every input the law returns true; each argument reads behind the call as it read before'; 0 by the template 'total and deterministic' (their statements: YtpcahfdpbbcapaaTotals.lean).
  GIVEN WITH THE SEED: the statements are not yours to turn. If you find one false, say at which input.
  Laid BY PROGRAM, IN A SANDBOX (cutbox-rows.mjs): the forced cells as the released guide's own fill.sh prints them over the translation d81fa83ae9311529… (all of the seat's roots in one cut). By AI agents, Wed Nov 11 2026. No macro, syntax, notation, axiom, sorry.
-/
import Derived.Test.YtpcahfdpbbcapaaChecked
import GoSem.Claim
import GoSem.ClaimJoined
import GoSem.ClaimMapViews
import Derived.JoinedTies
import Derived.KernelRfl
namespace Go.Proofs.Ytpcahfdpbbcapaa
/- THE CELL 'sum', in the pinned program and in every row, IS THE sha256 OF THE DUMP (.gsa) THAT YtpcahfdpbbcapaaProg.lean LOADS. Nothing in Lean hashes anything: it is a label: what it is worth is what the hold of that sum in a sandbox is worth. -/
noncomputable def Try.pinned : Pinned := { name := "ytpcahfdpbbcapaa", sum := "d81fa83ae9311529b22adf5df0eed315a2e6bb7f4410e0c134fe7b411b3a8df2", checked := Try.checked }
namespace Rows
def none {H : Type} : Left H := { results := [], args := [] }

/-- 'laws.FnRankOf': WHATEVER THE INPUT: true; the input reads as it did. -/
def fnRankOfSpec : ChangeSpec := { name := "fnRankOf", fn := fun _ => fun
  | [d] => { results := [.lit (.bool true)], args := [d] }
  | _ => none }
def fnRankOfRow : OpenClaim := { program := "ytpcahfdpbbcapaa", sum := "d81fa83ae9311529b22adf5df0eed315a2e6bb7f4410e0c134fe7b411b3a8df2", func := "loop.example/strideviews/laws.FnRankOf", spec := "fnRankOf", apart := false }
def FnRankOfSaid : Prop := fnRankOfRow.holds Try.pinned (OpenSpec.ofChange fnRankOfSpec)

/-- ITS FALSE NEIGHBOUR: 'it returns false'. Refute it at one input. -/
def fnRankOfWrong : ChangeSpec := { name := "fnRankOf", fn := fun _ => fun
  | [d] => { results := [.lit (.bool false)], args := [d] }
  | _ => none }
def FnRankOfWrongFalsely : Prop := fnRankOfRow.holds Try.pinned (OpenSpec.ofChange fnRankOfWrong)

/-- 'laws.FnExactSameView': WHATEVER THE INPUT: true; the input reads as it did. -/
def fnExactSameViewSpec : ChangeSpec := { name := "fnExactSameView", fn := fun _ => fun
  | [d1, d2] => { results := [.lit (.bool true)], args := [d1, d2] }
  | _ => none }
def fnExactSameViewRow : OpenClaim := { program := "ytpcahfdpbbcapaa", sum := "d81fa83ae9311529b22adf5df0eed315a2e6bb7f4410e0c134fe7b411b3a8df2", func := "loop.example/strideviews/laws.FnExactSameView", spec := "fnExactSameView", unfollowed := true, recurses := true, apart := false }
def FnExactSameViewSaid : Prop := fnExactSameViewRow.holds Try.pinned (OpenSpec.ofChange fnExactSameViewSpec)

/-- ITS FALSE NEIGHBOUR: 'it returns false'. Refute it at one input. -/
def fnExactSameViewWrong : ChangeSpec := { name := "fnExactSameView", fn := fun _ => fun
  | [d1, d2] => { results := [.lit (.bool false)], args := [d1, d2] }
  | _ => none }
def FnExactSameViewWrongFalsely : Prop := fnExactSameViewRow.holds Try.pinned (OpenSpec.ofChange fnExactSameViewWrong)

/-- 'laws.FnExactOffsetsOf': WHATEVER THE INPUT: true; the input reads as it did. -/
def fnExactOffsetsOfSpec : ChangeSpec := { name := "fnExactOffsetsOf", fn := fun _ => fun
  | [d] => { results := [.lit (.bool true)], args := [d] }
  | _ => none }
def fnExactOffsetsOfRow : OpenClaim := { program := "ytpcahfdpbbcapaa", sum := "d81fa83ae9311529b22adf5df0eed315a2e6bb7f4410e0c134fe7b411b3a8df2", func := "loop.example/strideviews/laws.FnExactOffsetsOf", spec := "fnExactOffsetsOf", unfollowed := true, recurses := true, apart := false }
def FnExactOffsetsOfSaid : Prop := fnExactOffsetsOfRow.holds Try.pinned (OpenSpec.ofChange fnExactOffsetsOfSpec)

/-- ITS FALSE NEIGHBOUR: 'it returns false'. Refute it at one input. -/
def fnExactOffsetsOfWrong : ChangeSpec := { name := "fnExactOffsetsOf", fn := fun _ => fun
  | [d] => { results := [.lit (.bool false)], args := [d] }
  | _ => none }
def FnExactOffsetsOfWrongFalsely : Prop := fnExactOffsetsOfRow.holds Try.pinned (OpenSpec.ofChange fnExactOffsetsOfWrong)

/-- 'laws.FnExactOffsetAt': WHATEVER THE INPUT: true; the input reads as it did. -/
def fnExactOffsetAtSpec : ChangeSpec := { name := "fnExactOffsetAt", fn := fun _ => fun
  | [d1, d2] => { results := [.lit (.bool true)], args := [d1, d2] }
  | _ => none }
def fnExactOffsetAtRow : OpenClaim := { program := "ytpcahfdpbbcapaa", sum := "d81fa83ae9311529b22adf5df0eed315a2e6bb7f4410e0c134fe7b411b3a8df2", func := "loop.example/strideviews/laws.FnExactOffsetAt", spec := "fnExactOffsetAt", unfollowed := true, recurses := true, apart := false }
def FnExactOffsetAtSaid : Prop := fnExactOffsetAtRow.holds Try.pinned (OpenSpec.ofChange fnExactOffsetAtSpec)

/-- ITS FALSE NEIGHBOUR: 'it returns false'. Refute it at one input. -/
def fnExactOffsetAtWrong : ChangeSpec := { name := "fnExactOffsetAt", fn := fun _ => fun
  | [d1, d2] => { results := [.lit (.bool false)], args := [d1, d2] }
  | _ => none }
def FnExactOffsetAtWrongFalsely : Prop := fnExactOffsetAtRow.holds Try.pinned (OpenSpec.ofChange fnExactOffsetAtWrong)

/-- 'laws.FnExactBoundsOf': WHATEVER THE INPUT: true; the input reads as it did. -/
def fnExactBoundsOfSpec : ChangeSpec := { name := "fnExactBoundsOf", fn := fun _ => fun
  | [d] => { results := [.lit (.bool true)], args := [d] }
  | _ => none }
def fnExactBoundsOfRow : OpenClaim := { program := "ytpcahfdpbbcapaa", sum := "d81fa83ae9311529b22adf5df0eed315a2e6bb7f4410e0c134fe7b411b3a8df2", func := "loop.example/strideviews/laws.FnExactBoundsOf", spec := "fnExactBoundsOf", unfollowed := true, recurses := true, apart := false }
def FnExactBoundsOfSaid : Prop := fnExactBoundsOfRow.holds Try.pinned (OpenSpec.ofChange fnExactBoundsOfSpec)

/-- ITS FALSE NEIGHBOUR: 'it returns false'. Refute it at one input. -/
def fnExactBoundsOfWrong : ChangeSpec := { name := "fnExactBoundsOf", fn := fun _ => fun
  | [d] => { results := [.lit (.bool false)], args := [d] }
  | _ => none }
def FnExactBoundsOfWrongFalsely : Prop := fnExactBoundsOfRow.holds Try.pinned (OpenSpec.ofChange fnExactBoundsOfWrong)

/-- 'laws.FnExactMayOverlap': WHATEVER THE INPUT: true; the input reads as it did. -/
def fnExactMayOverlapSpec : ChangeSpec := { name := "fnExactMayOverlap", fn := fun _ => fun
  | [d1, d2] => { results := [.lit (.bool true)], args := [d1, d2] }
  | _ => none }
def fnExactMayOverlapRow : OpenClaim := { program := "ytpcahfdpbbcapaa", sum := "d81fa83ae9311529b22adf5df0eed315a2e6bb7f4410e0c134fe7b411b3a8df2", func := "loop.example/strideviews/laws.FnExactMayOverlap", spec := "fnExactMayOverlap", unfollowed := true, recurses := true, apart := false }
def FnExactMayOverlapSaid : Prop := fnExactMayOverlapRow.holds Try.pinned (OpenSpec.ofChange fnExactMayOverlapSpec)

/-- ITS FALSE NEIGHBOUR: 'it returns false'. Refute it at one input. -/
def fnExactMayOverlapWrong : ChangeSpec := { name := "fnExactMayOverlap", fn := fun _ => fun
  | [d1, d2] => { results := [.lit (.bool false)], args := [d1, d2] }
  | _ => none }
def FnExactMayOverlapWrongFalsely : Prop := fnExactMayOverlapRow.holds Try.pinned (OpenSpec.ofChange fnExactMayOverlapWrong)

/-- 'laws.FnExactIsCol': WHATEVER THE INPUT: true; the input reads as it did. -/
def fnExactIsColSpec : ChangeSpec := { name := "fnExactIsCol", fn := fun _ => fun
  | [d] => { results := [.lit (.bool true)], args := [d] }
  | _ => none }
def fnExactIsColRow : OpenClaim := { program := "ytpcahfdpbbcapaa", sum := "d81fa83ae9311529b22adf5df0eed315a2e6bb7f4410e0c134fe7b411b3a8df2", func := "loop.example/strideviews/laws.FnExactIsCol", spec := "fnExactIsCol", unfollowed := true, recurses := true, apart := false }
def FnExactIsColSaid : Prop := fnExactIsColRow.holds Try.pinned (OpenSpec.ofChange fnExactIsColSpec)

/-- ITS FALSE NEIGHBOUR: 'it returns false'. Refute it at one input. -/
def fnExactIsColWrong : ChangeSpec := { name := "fnExactIsCol", fn := fun _ => fun
  | [d] => { results := [.lit (.bool false)], args := [d] }
  | _ => none }
def FnExactIsColWrongFalsely : Prop := fnExactIsColRow.holds Try.pinned (OpenSpec.ofChange fnExactIsColWrong)

/-- 'laws.FnExactIsRow': WHATEVER THE INPUT: true; the input reads as it did. -/
def fnExactIsRowSpec : ChangeSpec := { name := "fnExactIsRow", fn := fun _ => fun
  | [d] => { results := [.lit (.bool true)], args := [d] }
  | _ => none }
def fnExactIsRowRow : OpenClaim := { program := "ytpcahfdpbbcapaa", sum := "d81fa83ae9311529b22adf5df0eed315a2e6bb7f4410e0c134fe7b411b3a8df2", func := "loop.example/strideviews/laws.FnExactIsRow", spec := "fnExactIsRow", unfollowed := true, recurses := true, apart := false }
def FnExactIsRowSaid : Prop := fnExactIsRowRow.holds Try.pinned (OpenSpec.ofChange fnExactIsRowSpec)

/-- ITS FALSE NEIGHBOUR: 'it returns false'. Refute it at one input. -/
def fnExactIsRowWrong : ChangeSpec := { name := "fnExactIsRow", fn := fun _ => fun
  | [d] => { results := [.lit (.bool false)], args := [d] }
  | _ => none }
def FnExactIsRowWrongFalsely : Prop := fnExactIsRowRow.holds Try.pinned (OpenSpec.ofChange fnExactIsRowWrong)

/-- 'laws.FnExactDropOnes': WHATEVER THE INPUT: true; the input reads as it did. -/
def fnExactDropOnesSpec : ChangeSpec := { name := "fnExactDropOnes", fn := fun _ => fun
  | [d] => { results := [.lit (.bool true)], args := [d] }
  | _ => none }
def fnExactDropOnesRow : OpenClaim := { program := "ytpcahfdpbbcapaa", sum := "d81fa83ae9311529b22adf5df0eed315a2e6bb7f4410e0c134fe7b411b3a8df2", func := "loop.example/strideviews/laws.FnExactDropOnes", spec := "fnExactDropOnes", unfollowed := true, recurses := true, apart := false }
def FnExactDropOnesSaid : Prop := fnExactDropOnesRow.holds Try.pinned (OpenSpec.ofChange fnExactDropOnesSpec)

/-- ITS FALSE NEIGHBOUR: 'it returns false'. Refute it at one input. -/
def fnExactDropOnesWrong : ChangeSpec := { name := "fnExactDropOnes", fn := fun _ => fun
  | [d] => { results := [.lit (.bool false)], args := [d] }
  | _ => none }
def FnExactDropOnesWrongFalsely : Prop := fnExactDropOnesRow.holds Try.pinned (OpenSpec.ofChange fnExactDropOnesWrong)

/-- 'laws.FnExactPermuteDims': WHATEVER THE INPUT: true; the input reads as it did. -/
def fnExactPermuteDimsSpec : ChangeSpec := { name := "fnExactPermuteDims", fn := fun _ => fun
  | [d1, d2] => { results := [.lit (.bool true)], args := [d1, d2] }
  | _ => none }
def fnExactPermuteDimsRow : OpenClaim := { program := "ytpcahfdpbbcapaa", sum := "d81fa83ae9311529b22adf5df0eed315a2e6bb7f4410e0c134fe7b411b3a8df2", func := "loop.example/strideviews/laws.FnExactPermuteDims", spec := "fnExactPermuteDims", unfollowed := true, recurses := true, apart := false }
def FnExactPermuteDimsSaid : Prop := fnExactPermuteDimsRow.holds Try.pinned (OpenSpec.ofChange fnExactPermuteDimsSpec)

/-- ITS FALSE NEIGHBOUR: 'it returns false'. Refute it at one input. -/
def fnExactPermuteDimsWrong : ChangeSpec := { name := "fnExactPermuteDims", fn := fun _ => fun
  | [d1, d2] => { results := [.lit (.bool false)], args := [d1, d2] }
  | _ => none }
def FnExactPermuteDimsWrongFalsely : Prop := fnExactPermuteDimsRow.holds Try.pinned (OpenSpec.ofChange fnExactPermuteDimsWrong)

/-- 'laws.FnExactAddDim': WHATEVER THE INPUT: true; the input reads as it did. -/
def fnExactAddDimSpec : ChangeSpec := { name := "fnExactAddDim", fn := fun _ => fun
  | [d1, d2] => { results := [.lit (.bool true)], args := [d1, d2] }
  | _ => none }
def fnExactAddDimRow : OpenClaim := { program := "ytpcahfdpbbcapaa", sum := "d81fa83ae9311529b22adf5df0eed315a2e6bb7f4410e0c134fe7b411b3a8df2", func := "loop.example/strideviews/laws.FnExactAddDim", spec := "fnExactAddDim", inPlace := ["slices.overlaps[int]"], unfollowed := true, recurses := true, apart := false }
def FnExactAddDimSaid : Prop := fnExactAddDimRow.holds Try.pinned (OpenSpec.ofChange fnExactAddDimSpec)

/-- ITS FALSE NEIGHBOUR: 'it returns false'. Refute it at one input. -/
def fnExactAddDimWrong : ChangeSpec := { name := "fnExactAddDim", fn := fun _ => fun
  | [d1, d2] => { results := [.lit (.bool false)], args := [d1, d2] }
  | _ => none }
def FnExactAddDimWrongFalsely : Prop := fnExactAddDimRow.holds Try.pinned (OpenSpec.ofChange fnExactAddDimWrong)

/-- 'laws.FnExactWindowsOf': WHATEVER THE INPUT: true; the input reads as it did. -/
def fnExactWindowsOfSpec : ChangeSpec := { name := "fnExactWindowsOf", fn := fun _ => fun
  | [d1, d2, d3] => { results := [.lit (.bool true)], args := [d1, d2, d3] }
  | _ => none }
def fnExactWindowsOfRow : OpenClaim := { program := "ytpcahfdpbbcapaa", sum := "d81fa83ae9311529b22adf5df0eed315a2e6bb7f4410e0c134fe7b411b3a8df2", func := "loop.example/strideviews/laws.FnExactWindowsOf", spec := "fnExactWindowsOf", unfollowed := true, recurses := true, apart := false }
def FnExactWindowsOfSaid : Prop := fnExactWindowsOfRow.holds Try.pinned (OpenSpec.ofChange fnExactWindowsOfSpec)

/-- ITS FALSE NEIGHBOUR: 'it returns false'. Refute it at one input. -/
def fnExactWindowsOfWrong : ChangeSpec := { name := "fnExactWindowsOf", fn := fun _ => fun
  | [d1, d2, d3] => { results := [.lit (.bool false)], args := [d1, d2, d3] }
  | _ => none }
def FnExactWindowsOfWrongFalsely : Prop := fnExactWindowsOfRow.holds Try.pinned (OpenSpec.ofChange fnExactWindowsOfWrong)

/- THE SECOND FORM. 'bulk': how many values and letters a reading holds, each counted each time it is reached (what is shared counts as often as it is met; a slice's spare places count too). A statement '..UptoSaid' is the law's where the arguments, and the package variables that the reading takes, are together of bulk at most 1048576: NARROWER than '..Said'. Prove '..Said' where nothing that the law and all that it calls make is longer than what came in: it says more and counts as full. Else prove '..UptoSaid'. A law counts once. -/
mutual
def uptoBulk {H : Type} : DataW H → Nat
  | .lit (.string bytes) => bytes.length + 1
  | .lit _ => 1
  | .nil => 1
  | .ptr d => uptoBulk d + 1
  | .slice elems spare => uptoBulkAll elems + uptoBulkAll spare + 1
  | .agg parts => uptoBulkAll parts + 1
  | .iface _ d => uptoBulk d + 1
  | .map entries => uptoBulkEntries entries + 1
  | .held _ => 1
def uptoBulkAll {H : Type} : List (DataW H) → Nat
  | [] => 0
  | d :: r => uptoBulk d + uptoBulkAll r
def uptoBulkEntries {H : Type} : List (Lit × DataW H) → Nat
  | [] => 0
  | x :: r => uptoBulkEntry x + uptoBulkEntries r
def uptoBulkEntry {H : Type} : Lit × DataW H → Nat
  | (.string bytes, d) => bytes.length + uptoBulk d + 1
  | (_, d) => uptoBulk d + 1
 end
def uptoSmall : (H : Type) → List (DataW H) → Bool := fun _ ds => decide (uptoBulkAll ds ≤ 1048576)
def OpenSpec.upto (s : _root_.Go.ChangeSpec) : _root_.Go.OpenSpec := { _root_.Go.OpenSpec.ofChange s with cond := some uptoSmall }

/-- 'laws.FnRankOf', WHERE WHAT IT READS IS OF BULK AT MOST 1048576: true; the input reads as it did. -/
def fnRankOfUptoRow : OpenClaim := { program := "ytpcahfdpbbcapaa", sum := "d81fa83ae9311529b22adf5df0eed315a2e6bb7f4410e0c134fe7b411b3a8df2", func := "loop.example/strideviews/laws.FnRankOf", spec := "fnRankOf", apart := false, narrowed := true }
def FnRankOfUptoSaid : Prop := fnRankOfUptoRow.holds Try.pinned (OpenSpec.upto fnRankOfSpec)

/-- 'laws.FnExactSameView', WHERE WHAT IT READS IS OF BULK AT MOST 1048576: true; the input reads as it did. -/
def fnExactSameViewUptoRow : OpenClaim := { program := "ytpcahfdpbbcapaa", sum := "d81fa83ae9311529b22adf5df0eed315a2e6bb7f4410e0c134fe7b411b3a8df2", func := "loop.example/strideviews/laws.FnExactSameView", spec := "fnExactSameView", unfollowed := true, recurses := true, apart := false, narrowed := true }
def FnExactSameViewUptoSaid : Prop := fnExactSameViewUptoRow.holds Try.pinned (OpenSpec.upto fnExactSameViewSpec)

/-- 'laws.FnExactOffsetsOf', WHERE WHAT IT READS IS OF BULK AT MOST 1048576: true; the input reads as it did. -/
def fnExactOffsetsOfUptoRow : OpenClaim := { program := "ytpcahfdpbbcapaa", sum := "d81fa83ae9311529b22adf5df0eed315a2e6bb7f4410e0c134fe7b411b3a8df2", func := "loop.example/strideviews/laws.FnExactOffsetsOf", spec := "fnExactOffsetsOf", unfollowed := true, recurses := true, apart := false, narrowed := true }
def FnExactOffsetsOfUptoSaid : Prop := fnExactOffsetsOfUptoRow.holds Try.pinned (OpenSpec.upto fnExactOffsetsOfSpec)

/-- 'laws.FnExactOffsetAt', WHERE WHAT IT READS IS OF BULK AT MOST 1048576: true; the input reads as it did. -/
def fnExactOffsetAtUptoRow : OpenClaim := { program := "ytpcahfdpbbcapaa", sum := "d81fa83ae9311529b22adf5df0eed315a2e6bb7f4410e0c134fe7b411b3a8df2", func := "loop.example/strideviews/laws.FnExactOffsetAt", spec := "fnExactOffsetAt", unfollowed := true, recurses := true, apart := false, narrowed := true }
def FnExactOffsetAtUptoSaid : Prop := fnExactOffsetAtUptoRow.holds Try.pinned (OpenSpec.upto fnExactOffsetAtSpec)

/-- 'laws.FnExactBoundsOf', WHERE WHAT IT READS IS OF BULK AT MOST 1048576: true; the input reads as it did. -/
def fnExactBoundsOfUptoRow : OpenClaim := { program := "ytpcahfdpbbcapaa", sum := "d81fa83ae9311529b22adf5df0eed315a2e6bb7f4410e0c134fe7b411b3a8df2", func := "loop.example/strideviews/laws.FnExactBoundsOf", spec := "fnExactBoundsOf", unfollowed := true, recurses := true, apart := false, narrowed := true }
def FnExactBoundsOfUptoSaid : Prop := fnExactBoundsOfUptoRow.holds Try.pinned (OpenSpec.upto fnExactBoundsOfSpec)

/-- 'laws.FnExactMayOverlap', WHERE WHAT IT READS IS OF BULK AT MOST 1048576: true; the input reads as it did. -/
def fnExactMayOverlapUptoRow : OpenClaim := { program := "ytpcahfdpbbcapaa", sum := "d81fa83ae9311529b22adf5df0eed315a2e6bb7f4410e0c134fe7b411b3a8df2", func := "loop.example/strideviews/laws.FnExactMayOverlap", spec := "fnExactMayOverlap", unfollowed := true, recurses := true, apart := false, narrowed := true }
def FnExactMayOverlapUptoSaid : Prop := fnExactMayOverlapUptoRow.holds Try.pinned (OpenSpec.upto fnExactMayOverlapSpec)

/-- 'laws.FnExactIsCol', WHERE WHAT IT READS IS OF BULK AT MOST 1048576: true; the input reads as it did. -/
def fnExactIsColUptoRow : OpenClaim := { program := "ytpcahfdpbbcapaa", sum := "d81fa83ae9311529b22adf5df0eed315a2e6bb7f4410e0c134fe7b411b3a8df2", func := "loop.example/strideviews/laws.FnExactIsCol", spec := "fnExactIsCol", unfollowed := true, recurses := true, apart := false, narrowed := true }
def FnExactIsColUptoSaid : Prop := fnExactIsColUptoRow.holds Try.pinned (OpenSpec.upto fnExactIsColSpec)

/-- 'laws.FnExactIsRow', WHERE WHAT IT READS IS OF BULK AT MOST 1048576: true; the input reads as it did. -/
def fnExactIsRowUptoRow : OpenClaim := { program := "ytpcahfdpbbcapaa", sum := "d81fa83ae9311529b22adf5df0eed315a2e6bb7f4410e0c134fe7b411b3a8df2", func := "loop.example/strideviews/laws.FnExactIsRow", spec := "fnExactIsRow", unfollowed := true, recurses := true, apart := false, narrowed := true }
def FnExactIsRowUptoSaid : Prop := fnExactIsRowUptoRow.holds Try.pinned (OpenSpec.upto fnExactIsRowSpec)

/-- 'laws.FnExactDropOnes', WHERE WHAT IT READS IS OF BULK AT MOST 1048576: true; the input reads as it did. -/
def fnExactDropOnesUptoRow : OpenClaim := { program := "ytpcahfdpbbcapaa", sum := "d81fa83ae9311529b22adf5df0eed315a2e6bb7f4410e0c134fe7b411b3a8df2", func := "loop.example/strideviews/laws.FnExactDropOnes", spec := "fnExactDropOnes", unfollowed := true, recurses := true, apart := false, narrowed := true }
def FnExactDropOnesUptoSaid : Prop := fnExactDropOnesUptoRow.holds Try.pinned (OpenSpec.upto fnExactDropOnesSpec)

/-- 'laws.FnExactPermuteDims', WHERE WHAT IT READS IS OF BULK AT MOST 1048576: true; the input reads as it did. -/
def fnExactPermuteDimsUptoRow : OpenClaim := { program := "ytpcahfdpbbcapaa", sum := "d81fa83ae9311529b22adf5df0eed315a2e6bb7f4410e0c134fe7b411b3a8df2", func := "loop.example/strideviews/laws.FnExactPermuteDims", spec := "fnExactPermuteDims", unfollowed := true, recurses := true, apart := false, narrowed := true }
def FnExactPermuteDimsUptoSaid : Prop := fnExactPermuteDimsUptoRow.holds Try.pinned (OpenSpec.upto fnExactPermuteDimsSpec)

/-- 'laws.FnExactAddDim', WHERE WHAT IT READS IS OF BULK AT MOST 1048576: true; the input reads as it did. -/
def fnExactAddDimUptoRow : OpenClaim := { program := "ytpcahfdpbbcapaa", sum := "d81fa83ae9311529b22adf5df0eed315a2e6bb7f4410e0c134fe7b411b3a8df2", func := "loop.example/strideviews/laws.FnExactAddDim", spec := "fnExactAddDim", inPlace := ["slices.overlaps[int]"], unfollowed := true, recurses := true, apart := false, narrowed := true }
def FnExactAddDimUptoSaid : Prop := fnExactAddDimUptoRow.holds Try.pinned (OpenSpec.upto fnExactAddDimSpec)

/-- 'laws.FnExactWindowsOf', WHERE WHAT IT READS IS OF BULK AT MOST 1048576: true; the input reads as it did. -/
def fnExactWindowsOfUptoRow : OpenClaim := { program := "ytpcahfdpbbcapaa", sum := "d81fa83ae9311529b22adf5df0eed315a2e6bb7f4410e0c134fe7b411b3a8df2", func := "loop.example/strideviews/laws.FnExactWindowsOf", spec := "fnExactWindowsOf", unfollowed := true, recurses := true, apart := false, narrowed := true }
def FnExactWindowsOfUptoSaid : Prop := fnExactWindowsOfUptoRow.holds Try.pinned (OpenSpec.upto fnExactWindowsOfSpec)

end Rows
end Go.Proofs.Ytpcahfdpbbcapaa
