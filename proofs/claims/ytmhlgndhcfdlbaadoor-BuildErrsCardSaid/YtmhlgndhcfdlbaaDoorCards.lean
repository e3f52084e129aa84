/-
  DERIVED. GIVEN WITH THE SEED: THE CARDS: each row of YtmhlgndhcfdlbaaDoorRows.lean that lists a variable, with what it lists TIED to the program's text (the seventh form; the later family's looks); each row that meets fmt, with fmt's text TOLD by the authors' own Lean function (tested against real Go, not proved from fmt's source: count such statements apart). THE CARD IS WHAT COUNTS. Prove the row's statement (the work); the ties are given (YtmhlgndhcfdlbaaDoorTie.lean); close each card by the builder's one call (the guide's Derived/Test/ToyasCard.lean, 'card_holds'). Laid BY PROGRAM, IN A SANDBOX (cutbox-door.mjs). By AI agents, Wed Nov 11 2026. No macro, syntax, notation, axiom, sorry.
-/
import Derived.Test.YtmhlgndhcfdlbaaDoorRows
import GoSem.ClaimSeven
namespace Go.Proofs.YtmhlgndhcfdlbaaDoor
namespace Rows

/-- THE TIED CARD OF 'transhumancelaw10.BuildSwaps'. -/
def buildSwapsCard : Claim7 := { stood := { row := buildSwapsRow, standIns := [], harness := (true, "cd6b24070bd836915534437ee792edb2b936e9cd55c35513f3beca42e816189b"), looks := false }, kinds := [], alts := [], laidByText := true, laidKinds := [.data, .pinned], laidTests := true, laidLooks := .later }
def BuildSwapsCardSaid : Prop := Claim7.holds Tryd.pinned (.plain (OpenSpec.ofChange buildSwapsSpec)) buildSwapsCard

/-- THE TIED CARD OF 'transhumancelaw10.BuildErrs'. -/
def buildErrsCard : Claim7 := { stood := { row := buildErrsRow, standIns := [], harness := (true, "cd6b24070bd836915534437ee792edb2b936e9cd55c35513f3beca42e816189b"), looks := false }, kinds := [], alts := [], laidByText := true, laidKinds := [.data, .pinned], laidTests := true, laidLooks := .later }
def BuildErrsCardSaid : Prop := Claim7.holds Tryd.pinned (.plain (OpenSpec.ofChange buildErrsSpec)) buildErrsCard

/-- THE SECOND FORM's CARD OF 'transhumancelaw10.BuildSwaps'. -/
def buildSwapsUptoCard : Claim7 := { stood := { row := buildSwapsUptoRow, standIns := [], harness := (true, "cd6b24070bd836915534437ee792edb2b936e9cd55c35513f3beca42e816189b"), looks := false }, kinds := [], alts := [], laidByText := true, laidKinds := [.data, .pinned], laidTests := true, laidLooks := .later }
def BuildSwapsUptoCardSaid : Prop := Claim7.holds Tryd.pinned (.plain (OpenSpec.upto buildSwapsSpec)) buildSwapsUptoCard

/-- THE SECOND FORM's CARD OF 'transhumancelaw10.BuildErrs'. -/
def buildErrsUptoCard : Claim7 := { stood := { row := buildErrsUptoRow, standIns := [], harness := (true, "cd6b24070bd836915534437ee792edb2b936e9cd55c35513f3beca42e816189b"), looks := false }, kinds := [], alts := [], laidByText := true, laidKinds := [.data, .pinned], laidTests := true, laidLooks := .later }
def BuildErrsUptoCardSaid : Prop := Claim7.holds Tryd.pinned (.plain (OpenSpec.upto buildErrsSpec)) buildErrsUptoCard
end Rows
end Go.Proofs.YtmhlgndhcfdlbaaDoor
