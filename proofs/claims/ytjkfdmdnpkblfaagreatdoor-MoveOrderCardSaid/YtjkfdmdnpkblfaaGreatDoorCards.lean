/-
  DERIVED. GIVEN WITH THE SEED: THE CARDS: each row of YtjkfdmdnpkblfaaGreatDoorRows.lean that lists a variable, with what it lists TIED to the program's text (the seventh form; the later family's looks); each row that meets fmt, with fmt's text TOLD by the authors' own Lean function (tested against real Go, not proved from fmt's source: count such statements apart). THE CARD IS WHAT COUNTS. Prove the row's statement (the work); the ties are given (YtjkfdmdnpkblfaaGreatDoorTie.lean); close each card by the builder's one call (the guide's Derived/Test/ToyasCard.lean, 'card_holds'). Laid BY PROGRAM, IN A SANDBOX (cutbox-door.mjs). By AI agents, Wed Nov 11 2026. No macro, syntax, notation, axiom, sorry.
-/
import Derived.Test.YtjkfdmdnpkblfaaGreatDoorRows
import GoSem.ClaimSeven
namespace Go.Proofs.YtjkfdmdnpkblfaaGreatDoor
namespace Rows

/-- THE TIED CARD OF 'transhumancelaw11.MoveWants'. -/
def moveWantsCard : Claim7 := { stood := { row := moveWantsRow, standIns := [], harness := (true, "e3fafb3cf7f5ac5126bf0d8721f292267cb5b60b099b1ec88e43ceadb87e0fb6"), looks := false }, kinds := [], alts := [], laidByText := true, laidKinds := [.data, .data, .data, .data, .pinned], laidTests := true, laidLooks := .later }
def MoveWantsCardSaid : Prop := Claim7.holds Tryz.pinned (.plain (OpenSpec.ofChange moveWantsSpec)) moveWantsCard

/-- THE TIED CARD OF 'transhumancelaw11.MoveTroubles'. -/
def moveTroublesCard : Claim7 := { stood := { row := moveTroublesRow, standIns := [], harness := (true, "e3fafb3cf7f5ac5126bf0d8721f292267cb5b60b099b1ec88e43ceadb87e0fb6"), looks := false }, kinds := [], alts := [], laidByText := true, laidKinds := [.data, .data, .data, .data, .pinned], laidTests := true, laidLooks := .later }
def MoveTroublesCardSaid : Prop := Claim7.holds Tryz.pinned (.plain (OpenSpec.ofChange moveTroublesSpec)) moveTroublesCard

/-- THE TIED CARD OF 'transhumancelaw11.MoveOrder'. -/
def moveOrderCard : Claim7 := { stood := { row := moveOrderRow, standIns := [], harness := (true, "e3fafb3cf7f5ac5126bf0d8721f292267cb5b60b099b1ec88e43ceadb87e0fb6"), looks := false }, kinds := [], alts := [], laidByText := true, laidKinds := [.data, .data, .data, .data, .pinned], laidTests := true, laidLooks := .later }
def MoveOrderCardSaid : Prop := Claim7.holds Tryz.pinned (.plain (OpenSpec.ofChange moveOrderSpec)) moveOrderCard

/-- THE TIED CARD OF 'transhumancelaw11.MoveDeep'. -/
def moveDeepCard : Claim7 := { stood := { row := moveDeepRow, standIns := [], harness := (true, "e3fafb3cf7f5ac5126bf0d8721f292267cb5b60b099b1ec88e43ceadb87e0fb6"), looks := false }, kinds := [], alts := [], laidByText := true, laidKinds := [.data, .data, .data, .data, .pinned], laidTests := true, laidLooks := .later }
def MoveDeepCardSaid : Prop := Claim7.holds Tryz.pinned (.plain (OpenSpec.ofChange moveDeepSpec)) moveDeepCard

/-- THE TIED CARD OF 'transhumancelaw11.MoveClash'. -/
def moveClashCard : Claim7 := { stood := { row := moveClashRow, standIns := [], harness := (true, "e3fafb3cf7f5ac5126bf0d8721f292267cb5b60b099b1ec88e43ceadb87e0fb6"), looks := false }, kinds := [], alts := [], laidByText := true, laidKinds := [.data, .data, .data, .data, .pinned], laidTests := true, laidLooks := .later }
def MoveClashCardSaid : Prop := Claim7.holds Tryz.pinned (.plain (OpenSpec.ofChange moveClashSpec)) moveClashCard

/-- THE TIED CARD OF 'transhumancelaw11.MoveMain'. -/
def moveMainCard : Claim7 := { stood := { row := moveMainRow, standIns := [], harness := (true, "e3fafb3cf7f5ac5126bf0d8721f292267cb5b60b099b1ec88e43ceadb87e0fb6"), looks := false }, kinds := [], alts := [], laidByText := true, laidKinds := [.data, .data, .data, .data, .pinned], laidTests := true, laidLooks := .later }
def MoveMainCardSaid : Prop := Claim7.holds Tryz.pinned (.plain (OpenSpec.ofChange moveMainSpec)) moveMainCard

/-- THE SECOND FORM's CARD OF 'transhumancelaw11.MoveWants'. -/
def moveWantsUptoCard : Claim7 := { stood := { row := moveWantsUptoRow, standIns := [], harness := (true, "e3fafb3cf7f5ac5126bf0d8721f292267cb5b60b099b1ec88e43ceadb87e0fb6"), looks := false }, kinds := [], alts := [], laidByText := true, laidKinds := [.data, .data, .data, .data, .pinned], laidTests := true, laidLooks := .later }
def MoveWantsUptoCardSaid : Prop := Claim7.holds Tryz.pinned (.plain (OpenSpec.upto moveWantsSpec)) moveWantsUptoCard

/-- THE SECOND FORM's CARD OF 'transhumancelaw11.MoveTroubles'. -/
def moveTroublesUptoCard : Claim7 := { stood := { row := moveTroublesUptoRow, standIns := [], harness := (true, "e3fafb3cf7f5ac5126bf0d8721f292267cb5b60b099b1ec88e43ceadb87e0fb6"), looks := false }, kinds := [], alts := [], laidByText := true, laidKinds := [.data, .data, .data, .data, .pinned], laidTests := true, laidLooks := .later }
def MoveTroublesUptoCardSaid : Prop := Claim7.holds Tryz.pinned (.plain (OpenSpec.upto moveTroublesSpec)) moveTroublesUptoCard

/-- THE SECOND FORM's CARD OF 'transhumancelaw11.MoveOrder'. -/
def moveOrderUptoCard : Claim7 := { stood := { row := moveOrderUptoRow, standIns := [], harness := (true, "e3fafb3cf7f5ac5126bf0d8721f292267cb5b60b099b1ec88e43ceadb87e0fb6"), looks := false }, kinds := [], alts := [], laidByText := true, laidKinds := [.data, .data, .data, .data, .pinned], laidTests := true, laidLooks := .later }
def MoveOrderUptoCardSaid : Prop := Claim7.holds Tryz.pinned (.plain (OpenSpec.upto moveOrderSpec)) moveOrderUptoCard

/-- THE SECOND FORM's CARD OF 'transhumancelaw11.MoveDeep'. -/
def moveDeepUptoCard : Claim7 := { stood := { row := moveDeepUptoRow, standIns := [], harness := (true, "e3fafb3cf7f5ac5126bf0d8721f292267cb5b60b099b1ec88e43ceadb87e0fb6"), looks := false }, kinds := [], alts := [], laidByText := true, laidKinds := [.data, .data, .data, .data, .pinned], laidTests := true, laidLooks := .later }
def MoveDeepUptoCardSaid : Prop := Claim7.holds Tryz.pinned (.plain (OpenSpec.upto moveDeepSpec)) moveDeepUptoCard

/-- THE SECOND FORM's CARD OF 'transhumancelaw11.MoveClash'. -/
def moveClashUptoCard : Claim7 := { stood := { row := moveClashUptoRow, standIns := [], harness := (true, "e3fafb3cf7f5ac5126bf0d8721f292267cb5b60b099b1ec88e43ceadb87e0fb6"), looks := false }, kinds := [], alts := [], laidByText := true, laidKinds := [.data, .data, .data, .data, .pinned], laidTests := true, laidLooks := .later }
def MoveClashUptoCardSaid : Prop := Claim7.holds Tryz.pinned (.plain (OpenSpec.upto moveClashSpec)) moveClashUptoCard

/-- THE SECOND FORM's CARD OF 'transhumancelaw11.MoveMain'. -/
def moveMainUptoCard : Claim7 := { stood := { row := moveMainUptoRow, standIns := [], harness := (true, "e3fafb3cf7f5ac5126bf0d8721f292267cb5b60b099b1ec88e43ceadb87e0fb6"), looks := false }, kinds := [], alts := [], laidByText := true, laidKinds := [.data, .data, .data, .data, .pinned], laidTests := true, laidLooks := .later }
def MoveMainUptoCardSaid : Prop := Claim7.holds Tryz.pinned (.plain (OpenSpec.upto moveMainSpec)) moveMainUptoCard
end Rows
end Go.Proofs.YtjkfdmdnpkblfaaGreatDoor
