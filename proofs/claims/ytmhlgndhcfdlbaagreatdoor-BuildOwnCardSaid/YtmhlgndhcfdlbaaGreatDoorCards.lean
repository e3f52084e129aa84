/-
  DERIVED. GIVEN WITH THE SEED: THE CARDS: each row of YtmhlgndhcfdlbaaGreatDoorRows.lean that lists a variable, with what it lists TIED to the program's text (the seventh form; the later family's looks); each row that meets fmt, with fmt's text TOLD by the authors' own Lean function (tested against real Go, not proved from fmt's source: count such statements apart). THE CARD IS WHAT COUNTS. Prove the row's statement (the work); the ties are given (YtmhlgndhcfdlbaaGreatDoorTie.lean); close each card by the builder's one call (the guide's Derived/Test/ToyasCard.lean, 'card_holds'). Laid BY PROGRAM, IN A SANDBOX (cutbox-door.mjs). By AI agents, Wed Nov 11 2026. No macro, syntax, notation, axiom, sorry.
-/
import Derived.Test.YtmhlgndhcfdlbaaGreatDoorRows
import GoSem.ClaimSeven
namespace Go.Proofs.YtmhlgndhcfdlbaaGreatDoor
namespace Rows

/-- THE TIED CARD OF 'transhumancelaw10.BuildMore'. -/
def buildMoreCard : Claim7 := { stood := { row := buildMoreRow, standIns := [], harness := (true, "d582014b3baee50914b0e50363f0aa1c829743198b04de7ea16a202eaefeca98"), looks := false }, kinds := [], alts := [], laidByText := true, laidKinds := [.data, .pinned], laidTests := true, laidLooks := .later }
def BuildMoreCardSaid : Prop := Claim7.holds Tryz.pinned (.plain (OpenSpec.ofChange buildMoreSpec)) buildMoreCard

/-- THE TIED CARD OF 'transhumancelaw10.BuildExcludes'. -/
def buildExcludesCard : Claim7 := { stood := { row := buildExcludesRow, standIns := [], harness := (true, "d582014b3baee50914b0e50363f0aa1c829743198b04de7ea16a202eaefeca98"), looks := false }, kinds := [], alts := [], laidByText := true, laidKinds := [.data, .pinned], laidTests := true, laidLooks := .later }
def BuildExcludesCardSaid : Prop := Claim7.holds Tryz.pinned (.plain (OpenSpec.ofChange buildExcludesSpec)) buildExcludesCard

/-- THE TIED CARD OF 'transhumancelaw10.BuildMain'. -/
def buildMainCard : Claim7 := { stood := { row := buildMainRow, standIns := [], harness := (true, "d582014b3baee50914b0e50363f0aa1c829743198b04de7ea16a202eaefeca98"), looks := false }, kinds := [], alts := [], laidByText := true, laidKinds := [.data, .pinned], laidTests := true, laidLooks := .later }
def BuildMainCardSaid : Prop := Claim7.holds Tryz.pinned (.plain (OpenSpec.ofChange buildMainSpec)) buildMainCard

/-- THE TIED CARD OF 'transhumancelaw10.BuildBoth'. -/
def buildBothCard : Claim7 := { stood := { row := buildBothRow, standIns := [], harness := (true, "d582014b3baee50914b0e50363f0aa1c829743198b04de7ea16a202eaefeca98"), looks := false }, kinds := [], alts := [], laidByText := true, laidKinds := [.data, .pinned], laidTests := true, laidLooks := .later }
def BuildBothCardSaid : Prop := Claim7.holds Tryz.pinned (.plain (OpenSpec.ofChange buildBothSpec)) buildBothCard

/-- THE TIED CARD OF 'transhumancelaw10.BuildFinds'. -/
def buildFindsCard : Claim7 := { stood := { row := buildFindsRow, standIns := [], harness := (true, "d582014b3baee50914b0e50363f0aa1c829743198b04de7ea16a202eaefeca98"), looks := false }, kinds := [], alts := [], laidByText := true, laidKinds := [.data, .pinned], laidTests := true, laidLooks := .later }
def BuildFindsCardSaid : Prop := Claim7.holds Tryz.pinned (.plain (OpenSpec.ofChange buildFindsSpec)) buildFindsCard

/-- THE TIED CARD OF 'transhumancelaw10.BuildMeans'. -/
def buildMeansCard : Claim7 := { stood := { row := buildMeansRow, standIns := [], harness := (true, "d582014b3baee50914b0e50363f0aa1c829743198b04de7ea16a202eaefeca98"), looks := false }, kinds := [], alts := [], laidByText := true, laidKinds := [.data, .pinned], laidTests := true, laidLooks := .later }
def BuildMeansCardSaid : Prop := Claim7.holds Tryz.pinned (.plain (OpenSpec.ofChange buildMeansSpec)) buildMeansCard

/-- THE TIED CARD OF 'transhumancelaw10.BuildOwn'. -/
def buildOwnCard : Claim7 := { stood := { row := buildOwnRow, standIns := [], harness := (true, "d582014b3baee50914b0e50363f0aa1c829743198b04de7ea16a202eaefeca98"), looks := false }, kinds := [], alts := [], laidByText := true, laidKinds := [.data, .pinned], laidTests := true, laidLooks := .later }
def BuildOwnCardSaid : Prop := Claim7.holds Tryz.pinned (.plain (OpenSpec.ofChange buildOwnSpec)) buildOwnCard

/-- THE TIED CARD OF 'transhumancelaw10.BuildOne'. -/
def buildOneCard : Claim7 := { stood := { row := buildOneRow, standIns := [], harness := (true, "d582014b3baee50914b0e50363f0aa1c829743198b04de7ea16a202eaefeca98"), looks := false }, kinds := [], alts := [], laidByText := true, laidKinds := [.data, .pinned], laidTests := true, laidLooks := .later }
def BuildOneCardSaid : Prop := Claim7.holds Tryz.pinned (.plain (OpenSpec.ofChange buildOneSpec)) buildOneCard

/-- THE TIED CARD OF 'transhumancelaw10.BuildAll'. -/
def buildAllCard : Claim7 := { stood := { row := buildAllRow, standIns := [], harness := (true, "d582014b3baee50914b0e50363f0aa1c829743198b04de7ea16a202eaefeca98"), looks := false }, kinds := [], alts := [], laidByText := true, laidKinds := [.data, .pinned], laidTests := true, laidLooks := .later }
def BuildAllCardSaid : Prop := Claim7.holds Tryz.pinned (.plain (OpenSpec.ofChange buildAllSpec)) buildAllCard

/-- THE TIED CARD OF 'transhumancelaw10.BuildWhys'. -/
def buildWhysCard : Claim7 := { stood := { row := buildWhysRow, standIns := [], harness := (true, "d582014b3baee50914b0e50363f0aa1c829743198b04de7ea16a202eaefeca98"), looks := false }, kinds := [], alts := [], laidByText := true, laidKinds := [.data, .pinned], laidTests := true, laidLooks := .later }
def BuildWhysCardSaid : Prop := Claim7.holds Tryz.pinned (.plain (OpenSpec.ofChange buildWhysSpec)) buildWhysCard

/-- THE SECOND FORM's CARD OF 'transhumancelaw10.BuildMore'. -/
def buildMoreUptoCard : Claim7 := { stood := { row := buildMoreUptoRow, standIns := [], harness := (true, "d582014b3baee50914b0e50363f0aa1c829743198b04de7ea16a202eaefeca98"), looks := false }, kinds := [], alts := [], laidByText := true, laidKinds := [.data, .pinned], laidTests := true, laidLooks := .later }
def BuildMoreUptoCardSaid : Prop := Claim7.holds Tryz.pinned (.plain (OpenSpec.upto buildMoreSpec)) buildMoreUptoCard

/-- THE SECOND FORM's CARD OF 'transhumancelaw10.BuildExcludes'. -/
def buildExcludesUptoCard : Claim7 := { stood := { row := buildExcludesUptoRow, standIns := [], harness := (true, "d582014b3baee50914b0e50363f0aa1c829743198b04de7ea16a202eaefeca98"), looks := false }, kinds := [], alts := [], laidByText := true, laidKinds := [.data, .pinned], laidTests := true, laidLooks := .later }
def BuildExcludesUptoCardSaid : Prop := Claim7.holds Tryz.pinned (.plain (OpenSpec.upto buildExcludesSpec)) buildExcludesUptoCard

/-- THE SECOND FORM's CARD OF 'transhumancelaw10.BuildMain'. -/
def buildMainUptoCard : Claim7 := { stood := { row := buildMainUptoRow, standIns := [], harness := (true, "d582014b3baee50914b0e50363f0aa1c829743198b04de7ea16a202eaefeca98"), looks := false }, kinds := [], alts := [], laidByText := true, laidKinds := [.data, .pinned], laidTests := true, laidLooks := .later }
def BuildMainUptoCardSaid : Prop := Claim7.holds Tryz.pinned (.plain (OpenSpec.upto buildMainSpec)) buildMainUptoCard

/-- THE SECOND FORM's CARD OF 'transhumancelaw10.BuildBoth'. -/
def buildBothUptoCard : Claim7 := { stood := { row := buildBothUptoRow, standIns := [], harness := (true, "d582014b3baee50914b0e50363f0aa1c829743198b04de7ea16a202eaefeca98"), looks := false }, kinds := [], alts := [], laidByText := true, laidKinds := [.data, .pinned], laidTests := true, laidLooks := .later }
def BuildBothUptoCardSaid : Prop := Claim7.holds Tryz.pinned (.plain (OpenSpec.upto buildBothSpec)) buildBothUptoCard

/-- THE SECOND FORM's CARD OF 'transhumancelaw10.BuildFinds'. -/
def buildFindsUptoCard : Claim7 := { stood := { row := buildFindsUptoRow, standIns := [], harness := (true, "d582014b3baee50914b0e50363f0aa1c829743198b04de7ea16a202eaefeca98"), looks := false }, kinds := [], alts := [], laidByText := true, laidKinds := [.data, .pinned], laidTests := true, laidLooks := .later }
def BuildFindsUptoCardSaid : Prop := Claim7.holds Tryz.pinned (.plain (OpenSpec.upto buildFindsSpec)) buildFindsUptoCard

/-- THE SECOND FORM's CARD OF 'transhumancelaw10.BuildMeans'. -/
def buildMeansUptoCard : Claim7 := { stood := { row := buildMeansUptoRow, standIns := [], harness := (true, "d582014b3baee50914b0e50363f0aa1c829743198b04de7ea16a202eaefeca98"), looks := false }, kinds := [], alts := [], laidByText := true, laidKinds := [.data, .pinned], laidTests := true, laidLooks := .later }
def BuildMeansUptoCardSaid : Prop := Claim7.holds Tryz.pinned (.plain (OpenSpec.upto buildMeansSpec)) buildMeansUptoCard

/-- THE SECOND FORM's CARD OF 'transhumancelaw10.BuildOwn'. -/
def buildOwnUptoCard : Claim7 := { stood := { row := buildOwnUptoRow, standIns := [], harness := (true, "d582014b3baee50914b0e50363f0aa1c829743198b04de7ea16a202eaefeca98"), looks := false }, kinds := [], alts := [], laidByText := true, laidKinds := [.data, .pinned], laidTests := true, laidLooks := .later }
def BuildOwnUptoCardSaid : Prop := Claim7.holds Tryz.pinned (.plain (OpenSpec.upto buildOwnSpec)) buildOwnUptoCard

/-- THE SECOND FORM's CARD OF 'transhumancelaw10.BuildOne'. -/
def buildOneUptoCard : Claim7 := { stood := { row := buildOneUptoRow, standIns := [], harness := (true, "d582014b3baee50914b0e50363f0aa1c829743198b04de7ea16a202eaefeca98"), looks := false }, kinds := [], alts := [], laidByText := true, laidKinds := [.data, .pinned], laidTests := true, laidLooks := .later }
def BuildOneUptoCardSaid : Prop := Claim7.holds Tryz.pinned (.plain (OpenSpec.upto buildOneSpec)) buildOneUptoCard

/-- THE SECOND FORM's CARD OF 'transhumancelaw10.BuildAll'. -/
def buildAllUptoCard : Claim7 := { stood := { row := buildAllUptoRow, standIns := [], harness := (true, "d582014b3baee50914b0e50363f0aa1c829743198b04de7ea16a202eaefeca98"), looks := false }, kinds := [], alts := [], laidByText := true, laidKinds := [.data, .pinned], laidTests := true, laidLooks := .later }
def BuildAllUptoCardSaid : Prop := Claim7.holds Tryz.pinned (.plain (OpenSpec.upto buildAllSpec)) buildAllUptoCard

/-- THE SECOND FORM's CARD OF 'transhumancelaw10.BuildWhys'. -/
def buildWhysUptoCard : Claim7 := { stood := { row := buildWhysUptoRow, standIns := [], harness := (true, "d582014b3baee50914b0e50363f0aa1c829743198b04de7ea16a202eaefeca98"), looks := false }, kinds := [], alts := [], laidByText := true, laidKinds := [.data, .pinned], laidTests := true, laidLooks := .later }
def BuildWhysUptoCardSaid : Prop := Claim7.holds Tryz.pinned (.plain (OpenSpec.upto buildWhysSpec)) buildWhysUptoCard
end Rows
end Go.Proofs.YtmhlgndhcfdlbaaGreatDoor
