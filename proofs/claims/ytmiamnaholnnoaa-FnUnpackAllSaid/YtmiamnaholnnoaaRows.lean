/-
  No cell of these rows narrows 'for every input' (looked for: loops, veiled, ifaces, maps, wideKeys, modest, calm, conditions, laid).
  DERIVED. THE GIVEN ROWS OF THIS SEAT. 6 by the template 'for every input the law returns true; each argument reads behind the call as it read before'; 0 by the template 'total and deterministic' (their statements: YtmiamnaholnnoaaTotals.lean).
  GIVEN WITH THE SEED: the statements are not yours to turn. If you find one false, say at which input.
  Laid BY PROGRAM, IN A SANDBOX (cutbox-rows.mjs): the forced cells as the released guide's own fill.sh prints them over the translation 31b4aa5b612e8776… (all of the seat's roots in one cut). By AI agents, Wed Nov 11 2026. No macro, syntax, notation, axiom, sorry.
-/
import Derived.Test.YtmiamnaholnnoaaChecked
import GoSem.Claim
import GoSem.ClaimJoined
import GoSem.ClaimMapViews
import Derived.JoinedTies
import Derived.KernelRfl
namespace Go.Proofs.Ytmiamnaholnnoaa
/- THE CELL 'sum', in the pinned program and in every row, IS THE sha256 OF THE DUMP (.gsa) THAT YtmiamnaholnnoaaProg.lean LOADS. Nothing in Lean hashes anything: it is a label: what it is worth is what the hold of that sum in a sandbox is worth. -/
noncomputable def Try.pinned : Pinned := { name := "ytmiamnaholnnoaa", sum := "31b4aa5b612e8776ad8bafa3819028187f8419d56d906fede06e5ceee89765af", checked := Try.checked }
namespace Rows
def none {H : Type} : Left H := { results := [], args := [] }

/-- 'laws.FnPaddingOf': WHATEVER THE INPUT: true; the input reads as it did. -/
def fnPaddingOfSpec : ChangeSpec := { name := "fnPaddingOf", fn := fun _ => fun
  | [d] => { results := [.lit (.bool true)], args := [d] }
  | _ => none }
def fnPaddingOfRow : OpenClaim := { program := "ytmiamnaholnnoaa", sum := "31b4aa5b612e8776ad8bafa3819028187f8419d56d906fede06e5ceee89765af", func := "loop.example/strideviews/laws.FnPaddingOf", spec := "fnPaddingOf", unfollowed := true, recurses := true, apart := false }
def FnPaddingOfSaid : Prop := fnPaddingOfRow.holds Try.pinned (OpenSpec.ofChange fnPaddingOfSpec)

/-- ITS FALSE NEIGHBOUR: 'it returns false'. Refute it at one input. -/
def fnPaddingOfWrong : ChangeSpec := { name := "fnPaddingOf", fn := fun _ => fun
  | [d] => { results := [.lit (.bool false)], args := [d] }
  | _ => none }
def FnPaddingOfWrongFalsely : Prop := fnPaddingOfRow.holds Try.pinned (OpenSpec.ofChange fnPaddingOfWrong)

/-- 'laws.FnPackItem': WHATEVER THE INPUT: true; the input reads as it did. -/
def fnPackItemSpec : ChangeSpec := { name := "fnPackItem", fn := fun _ => fun
  | [d] => { results := [.lit (.bool true)], args := [d] }
  | _ => none }
def fnPackItemRow : OpenClaim := { program := "ytmiamnaholnnoaa", sum := "31b4aa5b612e8776ad8bafa3819028187f8419d56d906fede06e5ceee89765af", func := "loop.example/strideviews/laws.FnPackItem", spec := "fnPackItem", unfollowed := true, recurses := true, apart := false }
def FnPackItemSaid : Prop := fnPackItemRow.holds Try.pinned (OpenSpec.ofChange fnPackItemSpec)

/-- ITS FALSE NEIGHBOUR: 'it returns false'. Refute it at one input. -/
def fnPackItemWrong : ChangeSpec := { name := "fnPackItem", fn := fun _ => fun
  | [d] => { results := [.lit (.bool false)], args := [d] }
  | _ => none }
def FnPackItemWrongFalsely : Prop := fnPackItemRow.holds Try.pinned (OpenSpec.ofChange fnPackItemWrong)

/-- 'laws.FnUnpackItem': WHATEVER THE INPUT: true; the input reads as it did. -/
def fnUnpackItemSpec : ChangeSpec := { name := "fnUnpackItem", fn := fun _ => fun
  | [d] => { results := [.lit (.bool true)], args := [d] }
  | _ => none }
def fnUnpackItemRow : OpenClaim := { program := "ytmiamnaholnnoaa", sum := "31b4aa5b612e8776ad8bafa3819028187f8419d56d906fede06e5ceee89765af", func := "loop.example/strideviews/laws.FnUnpackItem", spec := "fnUnpackItem", unfollowed := true, recurses := true, apart := false }
def FnUnpackItemSaid : Prop := fnUnpackItemRow.holds Try.pinned (OpenSpec.ofChange fnUnpackItemSpec)

/-- ITS FALSE NEIGHBOUR: 'it returns false'. Refute it at one input. -/
def fnUnpackItemWrong : ChangeSpec := { name := "fnUnpackItem", fn := fun _ => fun
  | [d] => { results := [.lit (.bool false)], args := [d] }
  | _ => none }
def FnUnpackItemWrongFalsely : Prop := fnUnpackItemRow.holds Try.pinned (OpenSpec.ofChange fnUnpackItemWrong)

/-- 'laws.FnPackAll': WHATEVER THE INPUT: true; the input reads as it did. -/
def fnPackAllSpec : ChangeSpec := { name := "fnPackAll", fn := fun _ => fun
  | [d] => { results := [.lit (.bool true)], args := [d] }
  | _ => none }
def fnPackAllRow : OpenClaim := { program := "ytmiamnaholnnoaa", sum := "31b4aa5b612e8776ad8bafa3819028187f8419d56d906fede06e5ceee89765af", func := "loop.example/strideviews/laws.FnPackAll", spec := "fnPackAll", unfollowed := true, recurses := true, apart := false }
def FnPackAllSaid : Prop := fnPackAllRow.holds Try.pinned (OpenSpec.ofChange fnPackAllSpec)

/-- ITS FALSE NEIGHBOUR: 'it returns false'. Refute it at one input. -/
def fnPackAllWrong : ChangeSpec := { name := "fnPackAll", fn := fun _ => fun
  | [d] => { results := [.lit (.bool false)], args := [d] }
  | _ => none }
def FnPackAllWrongFalsely : Prop := fnPackAllRow.holds Try.pinned (OpenSpec.ofChange fnPackAllWrong)

/-- 'laws.FnUnpackAll': WHATEVER THE INPUT: true; the input reads as it did. -/
def fnUnpackAllSpec : ChangeSpec := { name := "fnUnpackAll", fn := fun _ => fun
  | [d] => { results := [.lit (.bool true)], args := [d] }
  | _ => none }
def fnUnpackAllRow : OpenClaim := { program := "ytmiamnaholnnoaa", sum := "31b4aa5b612e8776ad8bafa3819028187f8419d56d906fede06e5ceee89765af", func := "loop.example/strideviews/laws.FnUnpackAll", spec := "fnUnpackAll", unfollowed := true, recurses := true, apart := false }
def FnUnpackAllSaid : Prop := fnUnpackAllRow.holds Try.pinned (OpenSpec.ofChange fnUnpackAllSpec)

/-- ITS FALSE NEIGHBOUR: 'it returns false'. Refute it at one input. -/
def fnUnpackAllWrong : ChangeSpec := { name := "fnUnpackAll", fn := fun _ => fun
  | [d] => { results := [.lit (.bool false)], args := [d] }
  | _ => none }
def FnUnpackAllWrongFalsely : Prop := fnUnpackAllRow.holds Try.pinned (OpenSpec.ofChange fnUnpackAllWrong)

/-- 'laws.FnSwapBytes': WHATEVER THE INPUT: true; the input reads as it did. -/
def fnSwapBytesSpec : ChangeSpec := { name := "fnSwapBytes", fn := fun _ => fun
  | [d] => { results := [.lit (.bool true)], args := [d] }
  | _ => none }
def fnSwapBytesRow : OpenClaim := { program := "ytmiamnaholnnoaa", sum := "31b4aa5b612e8776ad8bafa3819028187f8419d56d906fede06e5ceee89765af", func := "loop.example/strideviews/laws.FnSwapBytes", spec := "fnSwapBytes", unfollowed := true, recurses := true, apart := false }
def FnSwapBytesSaid : Prop := fnSwapBytesRow.holds Try.pinned (OpenSpec.ofChange fnSwapBytesSpec)

/-- ITS FALSE NEIGHBOUR: 'it returns false'. Refute it at one input. -/
def fnSwapBytesWrong : ChangeSpec := { name := "fnSwapBytes", fn := fun _ => fun
  | [d] => { results := [.lit (.bool false)], args := [d] }
  | _ => none }
def FnSwapBytesWrongFalsely : Prop := fnSwapBytesRow.holds Try.pinned (OpenSpec.ofChange fnSwapBytesWrong)

/- THE SECOND FORM. 'bulk': how many values and letters a reading holds, each counted each time it is reached (what is shared counts as often as it is met; a slice's spare places count too). A statement '..UptoSaid' is the law's where the arguments, and the package variables that the reading takes, are together of bulk at most 1048576: NARROWER than '..Said'. Prove '..Said' where nothing that the law and all that it calls make is longer than what came in: it says more and counts as full. Else prove '..UptoSaid'. A law counts once. -/
mutual
def uptoBulk {H : Type} : DataW H → Nat
  | .lit (.string bytes) => bytes.length + 1
  | .lit _ => 1
  | .nil => 1
  | .ptr d => uptoBulk d + 1
  | .slice elems spare => uptoBulkAll elems + uptoBulkAll spare + 1
  | .agg parts => uptoBulkAll parts + 1
  | .iface _ d => uptoBulk d + 1
  | .map entries => uptoBulkEntries entries + 1
  | .held _ => 1
def uptoBulkAll {H : Type} : List (DataW H) → Nat
  | [] => 0
  | d :: r => uptoBulk d + uptoBulkAll r
def uptoBulkEntries {H : Type} : List (Lit × DataW H) → Nat
  | [] => 0
  | x :: r => uptoBulkEntry x + uptoBulkEntries r
def uptoBulkEntry {H : Type} : Lit × DataW H → Nat
  | (.string bytes, d) => bytes.length + uptoBulk d + 1
  | (_, d) => uptoBulk d + 1
 end
def uptoSmall : (H : Type) → List (DataW H) → Bool := fun _ ds => decide (uptoBulkAll ds ≤ 1048576)
def OpenSpec.upto (s : _root_.Go.ChangeSpec) : _root_.Go.OpenSpec := { _root_.Go.OpenSpec.ofChange s with cond := some uptoSmall }

/-- 'laws.FnPaddingOf', WHERE WHAT IT READS IS OF BULK AT MOST 1048576: true; the input reads as it did. -/
def fnPaddingOfUptoRow : OpenClaim := { program := "ytmiamnaholnnoaa", sum := "31b4aa5b612e8776ad8bafa3819028187f8419d56d906fede06e5ceee89765af", func := "loop.example/strideviews/laws.FnPaddingOf", spec := "fnPaddingOf", unfollowed := true, recurses := true, apart := false, narrowed := true }
def FnPaddingOfUptoSaid : Prop := fnPaddingOfUptoRow.holds Try.pinned (OpenSpec.upto fnPaddingOfSpec)

/-- 'laws.FnPackItem', WHERE WHAT IT READS IS OF BULK AT MOST 1048576: true; the input reads as it did. -/
def fnPackItemUptoRow : OpenClaim := { program := "ytmiamnaholnnoaa", sum := "31b4aa5b612e8776ad8bafa3819028187f8419d56d906fede06e5ceee89765af", func := "loop.example/strideviews/laws.FnPackItem", spec := "fnPackItem", unfollowed := true, recurses := true, apart := false, narrowed := true }
def FnPackItemUptoSaid : Prop := fnPackItemUptoRow.holds Try.pinned (OpenSpec.upto fnPackItemSpec)

/-- 'laws.FnUnpackItem', WHERE WHAT IT READS IS OF BULK AT MOST 1048576: true; the input reads as it did. -/
def fnUnpackItemUptoRow : OpenClaim := { program := "ytmiamnaholnnoaa", sum := "31b4aa5b612e8776ad8bafa3819028187f8419d56d906fede06e5ceee89765af", func := "loop.example/strideviews/laws.FnUnpackItem", spec := "fnUnpackItem", unfollowed := true, recurses := true, apart := false, narrowed := true }
def FnUnpackItemUptoSaid : Prop := fnUnpackItemUptoRow.holds Try.pinned (OpenSpec.upto fnUnpackItemSpec)

/-- 'laws.FnPackAll', WHERE WHAT IT READS IS OF BULK AT MOST 1048576: true; the input reads as it did. -/
def fnPackAllUptoRow : OpenClaim := { program := "ytmiamnaholnnoaa", sum := "31b4aa5b612e8776ad8bafa3819028187f8419d56d906fede06e5ceee89765af", func := "loop.example/strideviews/laws.FnPackAll", spec := "fnPackAll", unfollowed := true, recurses := true, apart := false, narrowed := true }
def FnPackAllUptoSaid : Prop := fnPackAllUptoRow.holds Try.pinned (OpenSpec.upto fnPackAllSpec)

/-- 'laws.FnUnpackAll', WHERE WHAT IT READS IS OF BULK AT MOST 1048576: true; the input reads as it did. -/
def fnUnpackAllUptoRow : OpenClaim := { program := "ytmiamnaholnnoaa", sum := "31b4aa5b612e8776ad8bafa3819028187f8419d56d906fede06e5ceee89765af", func := "loop.example/strideviews/laws.FnUnpackAll", spec := "fnUnpackAll", unfollowed := true, recurses := true, apart := false, narrowed := true }
def FnUnpackAllUptoSaid : Prop := fnUnpackAllUptoRow.holds Try.pinned (OpenSpec.upto fnUnpackAllSpec)

/-- 'laws.FnSwapBytes', WHERE WHAT IT READS IS OF BULK AT MOST 1048576: true; the input reads as it did. -/
def fnSwapBytesUptoRow : OpenClaim := { program := "ytmiamnaholnnoaa", sum := "31b4aa5b612e8776ad8bafa3819028187f8419d56d906fede06e5ceee89765af", func := "loop.example/strideviews/laws.FnSwapBytes", spec := "fnSwapBytes", unfollowed := true, recurses := true, apart := false, narrowed := true }
def FnSwapBytesUptoSaid : Prop := fnSwapBytesUptoRow.holds Try.pinned (OpenSpec.upto fnSwapBytesSpec)

end Rows
end Go.Proofs.Ytmiamnaholnnoaa
