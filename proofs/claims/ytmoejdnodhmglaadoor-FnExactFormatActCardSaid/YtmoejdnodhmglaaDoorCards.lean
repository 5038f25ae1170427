/-
  DERIVED. GIVEN WITH THE SEED: THE CARDS: each row of YtmoejdnodhmglaaDoorRows.lean that lists a variable, with what it lists TIED to the program's text (the seventh form; the later family's looks); each row that meets fmt, with fmt's text TOLD by the authors' own Lean function (tested against real Go, not proved from fmt's source: count such statements apart). THE CARD IS WHAT COUNTS. Prove the row's statement (the work); the ties are given (YtmoejdnodhmglaaDoorTie.lean); close each card by the builder's one call (the guide's Derived/Test/ToyasCard.lean, 'card_holds'). Laid BY PROGRAM, IN A SANDBOX (cutbox-door.mjs). By AI agents, Wed Nov 11 2026. No macro, syntax, notation, axiom, sorry.
-/
import Derived.Test.YtmoejdnodhmglaaDoorRows
import GoSem.ClaimSeven
namespace Go.Proofs.YtmoejdnodhmglaaDoor
namespace Rows

/-- THE TIED CARD OF 'laws.FnExactFormatAct'. -/
def fnExactFormatActCard : Claim7 := { stood := { row := fnExactFormatActRow, standIns := [], harness := (true, "40918465f15d48bc87335c40e765c2175a32ed7f6486ad8146b2c3528c959d36"), looks := false }, kinds := [], alts := [], laidByText := true, laidKinds := [.data, .data, .data, .widerDeep, .data], laidTests := true, laidLooks := .later }
def FnExactFormatActCardSaid : Prop := Claim7.holds Tryd.pinned (.plain (OpenSpec.ofChange fnExactFormatActSpec)) fnExactFormatActCard

/-- THE SECOND FORM's CARD OF 'laws.FnExactFormatAct'. -/
def fnExactFormatActUptoCard : Claim7 := { stood := { row := fnExactFormatActUptoRow, standIns := [], harness := (true, "40918465f15d48bc87335c40e765c2175a32ed7f6486ad8146b2c3528c959d36"), looks := false }, kinds := [], alts := [], laidByText := true, laidKinds := [.data, .data, .data, .widerDeep, .data], laidTests := true, laidLooks := .later }
def FnExactFormatActUptoCardSaid : Prop := Claim7.holds Tryd.pinned (.plain (OpenSpec.upto fnExactFormatActSpec)) fnExactFormatActUptoCard
end Rows
end Go.Proofs.YtmoejdnodhmglaaDoor
