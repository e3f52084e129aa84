/-
  DERIVED. GIVEN WITH THE SEED: THE CARDS: each row of YtildhhdbikpbaaaGreatDoorRows.lean that lists a variable, with what it lists TIED to the program's text (the seventh form; the later family's looks); each row that meets fmt, with fmt's text TOLD by the authors' own Lean function (tested against real Go, not proved from fmt's source: count such statements apart). THE CARD IS WHAT COUNTS. Prove the row's statement (the work); the ties are given (YtildhhdbikpbaaaGreatDoorTie.lean); close each card by the builder's one call (the guide's Derived/Test/ToyasCard.lean, 'card_holds'). Laid BY PROGRAM, IN A SANDBOX (cutbox-door.mjs). By AI agents, Wed Nov 11 2026. No macro, syntax, notation, axiom, sorry.
-/
import Derived.Test.YtildhhdbikpbaaaGreatDoorRows
import GoSem.ClaimSeven
namespace Go.Proofs.YtildhhdbikpbaaaGreatDoor
namespace Rows

/-- THE TIED CARD OF 'transhumancelaw3.SpanOps'. -/
def spanOpsCard : Claim7 := { stood := { row := spanOpsRow, standIns := [], harness := (true, "677dda388697c3be81f00c8f3e7162a91e326615aec89fc25f0adc6f7f408f5b"), looks := false }, kinds := [], alts := [], laidByText := true, laidKinds := [.data, .data, .data, .data, .pinned], laidTests := true, laidLooks := .later }
def SpanOpsCardSaid : Prop := Claim7.holds Tryz.pinned (.plain (OpenSpec.ofChange spanOpsSpec)) spanOpsCard

/-- THE TIED CARD OF 'transhumancelaw3.SpanLaws'. -/
def spanLawsCard : Claim7 := { stood := { row := spanLawsRow, standIns := [], harness := (true, "677dda388697c3be81f00c8f3e7162a91e326615aec89fc25f0adc6f7f408f5b"), looks := false }, kinds := [], alts := [], laidByText := true, laidKinds := [.data, .data, .data, .data, .pinned], laidTests := true, laidLooks := .later }
def SpanLawsCardSaid : Prop := Claim7.holds Tryz.pinned (.plain (OpenSpec.ofChange spanLawsSpec)) spanLawsCard

/-- THE TIED CARD OF 'transhumancelaw3.SpanParses'. -/
def spanParsesCard : Claim7 := { stood := { row := spanParsesRow, standIns := [], harness := (true, "677dda388697c3be81f00c8f3e7162a91e326615aec89fc25f0adc6f7f408f5b"), looks := false }, kinds := [], alts := [], laidByText := true, laidKinds := [.data, .data, .data, .data, .pinned], laidTests := true, laidLooks := .later }
def SpanParsesCardSaid : Prop := Claim7.holds Tryz.pinned (.plain (OpenSpec.ofChange spanParsesSpec)) spanParsesCard

/-- THE TIED CARD OF 'transhumancelaw3.SpanMeans'. -/
def spanMeansCard : Claim7 := { stood := { row := spanMeansRow, standIns := [], harness := (true, "677dda388697c3be81f00c8f3e7162a91e326615aec89fc25f0adc6f7f408f5b"), looks := false }, kinds := [], alts := [], laidByText := true, laidKinds := [.data, .data, .data, .data, .pinned], laidTests := true, laidLooks := .later }
def SpanMeansCardSaid : Prop := Claim7.holds Tryz.pinned (.plain (OpenSpec.ofChange spanMeansSpec)) spanMeansCard

/-- THE TIED CARD OF 'transhumancelaw3.SpanTexts'. -/
def spanTextsCard : Claim7 := { stood := { row := spanTextsRow, standIns := [], harness := (true, "677dda388697c3be81f00c8f3e7162a91e326615aec89fc25f0adc6f7f408f5b"), looks := false }, kinds := [], alts := [], laidByText := true, laidKinds := [.data, .data, .data, .data, .pinned], laidTests := true, laidLooks := .later }
def SpanTextsCardSaid : Prop := Claim7.holds Tryz.pinned (.plain (OpenSpec.ofChange spanTextsSpec)) spanTextsCard

/-- THE TIED CARD OF 'transhumancelaw3.SpanNormed'. -/
def spanNormedCard : Claim7 := { stood := { row := spanNormedRow, standIns := [], harness := (true, "677dda388697c3be81f00c8f3e7162a91e326615aec89fc25f0adc6f7f408f5b"), looks := false }, kinds := [], alts := [], laidByText := true, laidKinds := [.data, .data, .data, .data, .pinned], laidTests := true, laidLooks := .later }
def SpanNormedCardSaid : Prop := Claim7.holds Tryz.pinned (.plain (OpenSpec.ofChange spanNormedSpec)) spanNormedCard

/-- THE TIED CARD OF 'transhumancelaw3.SpanEnds'. -/
def spanEndsCard : Claim7 := { stood := { row := spanEndsRow, standIns := [], harness := (true, "677dda388697c3be81f00c8f3e7162a91e326615aec89fc25f0adc6f7f408f5b"), looks := false }, kinds := [], alts := [], laidByText := true, laidKinds := [.data, .data, .data, .data, .pinned], laidTests := true, laidLooks := .later }
def SpanEndsCardSaid : Prop := Claim7.holds Tryz.pinned (.plain (OpenSpec.ofChange spanEndsSpec)) spanEndsCard

/-- THE TIED CARD OF 'transhumancelaw3.SpanKnown'. -/
def spanKnownCard : Claim7 := { stood := { row := spanKnownRow, standIns := [], harness := (true, "677dda388697c3be81f00c8f3e7162a91e326615aec89fc25f0adc6f7f408f5b"), looks := false }, kinds := [], alts := [], laidByText := true, laidKinds := [.data, .data, .data, .data, .pinned], laidTests := true, laidLooks := .later }
def SpanKnownCardSaid : Prop := Claim7.holds Tryz.pinned (.plain (OpenSpec.ofChange spanKnownSpec)) spanKnownCard

/-- THE TIED CARD OF 'transhumancelaw3.SpanBad'. -/
def spanBadCard : Claim7 := { stood := { row := spanBadRow, standIns := [], harness := (true, "677dda388697c3be81f00c8f3e7162a91e326615aec89fc25f0adc6f7f408f5b"), looks := false }, kinds := [], alts := [], laidByText := true, laidKinds := [.data, .data, .data, .data, .pinned], laidTests := true, laidLooks := .later }
def SpanBadCardSaid : Prop := Claim7.holds Tryz.pinned (.plain (OpenSpec.ofChange spanBadSpec)) spanBadCard

/-- THE TIED CARD OF 'transhumancelaw3.SpanBlanks'. -/
def spanBlanksCard : Claim7 := { stood := { row := spanBlanksRow, standIns := [], harness := (true, "677dda388697c3be81f00c8f3e7162a91e326615aec89fc25f0adc6f7f408f5b"), looks := false }, kinds := [], alts := [], laidByText := true, laidKinds := [.data, .data, .data, .data, .pinned], laidTests := true, laidLooks := .later }
def SpanBlanksCardSaid : Prop := Claim7.holds Tryz.pinned (.plain (OpenSpec.ofChange spanBlanksSpec)) spanBlanksCard

/-- THE TIED CARD OF 'transhumancelaw3.SpanOwn'. -/
def spanOwnCard : Claim7 := { stood := { row := spanOwnRow, standIns := [], harness := (true, "677dda388697c3be81f00c8f3e7162a91e326615aec89fc25f0adc6f7f408f5b"), looks := false }, kinds := [], alts := [], laidByText := true, laidKinds := [.data, .data, .data, .data, .pinned], laidTests := true, laidLooks := .later }
def SpanOwnCardSaid : Prop := Claim7.holds Tryz.pinned (.plain (OpenSpec.ofChange spanOwnSpec)) spanOwnCard

/-- THE SECOND FORM's CARD OF 'transhumancelaw3.SpanOps'. -/
def spanOpsUptoCard : Claim7 := { stood := { row := spanOpsUptoRow, standIns := [], harness := (true, "677dda388697c3be81f00c8f3e7162a91e326615aec89fc25f0adc6f7f408f5b"), looks := false }, kinds := [], alts := [], laidByText := true, laidKinds := [.data, .data, .data, .data, .pinned], laidTests := true, laidLooks := .later }
def SpanOpsUptoCardSaid : Prop := Claim7.holds Tryz.pinned (.plain (OpenSpec.upto spanOpsSpec)) spanOpsUptoCard

/-- THE SECOND FORM's CARD OF 'transhumancelaw3.SpanLaws'. -/
def spanLawsUptoCard : Claim7 := { stood := { row := spanLawsUptoRow, standIns := [], harness := (true, "677dda388697c3be81f00c8f3e7162a91e326615aec89fc25f0adc6f7f408f5b"), looks := false }, kinds := [], alts := [], laidByText := true, laidKinds := [.data, .data, .data, .data, .pinned], laidTests := true, laidLooks := .later }
def SpanLawsUptoCardSaid : Prop := Claim7.holds Tryz.pinned (.plain (OpenSpec.upto spanLawsSpec)) spanLawsUptoCard

/-- THE SECOND FORM's CARD OF 'transhumancelaw3.SpanParses'. -/
def spanParsesUptoCard : Claim7 := { stood := { row := spanParsesUptoRow, standIns := [], harness := (true, "677dda388697c3be81f00c8f3e7162a91e326615aec89fc25f0adc6f7f408f5b"), looks := false }, kinds := [], alts := [], laidByText := true, laidKinds := [.data, .data, .data, .data, .pinned], laidTests := true, laidLooks := .later }
def SpanParsesUptoCardSaid : Prop := Claim7.holds Tryz.pinned (.plain (OpenSpec.upto spanParsesSpec)) spanParsesUptoCard

/-- THE SECOND FORM's CARD OF 'transhumancelaw3.SpanMeans'. -/
def spanMeansUptoCard : Claim7 := { stood := { row := spanMeansUptoRow, standIns := [], harness := (true, "677dda388697c3be81f00c8f3e7162a91e326615aec89fc25f0adc6f7f408f5b"), looks := false }, kinds := [], alts := [], laidByText := true, laidKinds := [.data, .data, .data, .data, .pinned], laidTests := true, laidLooks := .later }
def SpanMeansUptoCardSaid : Prop := Claim7.holds Tryz.pinned (.plain (OpenSpec.upto spanMeansSpec)) spanMeansUptoCard

/-- THE SECOND FORM's CARD OF 'transhumancelaw3.SpanTexts'. -/
def spanTextsUptoCard : Claim7 := { stood := { row := spanTextsUptoRow, standIns := [], harness := (true, "677dda388697c3be81f00c8f3e7162a91e326615aec89fc25f0adc6f7f408f5b"), looks := false }, kinds := [], alts := [], laidByText := true, laidKinds := [.data, .data, .data, .data, .pinned], laidTests := true, laidLooks := .later }
def SpanTextsUptoCardSaid : Prop := Claim7.holds Tryz.pinned (.plain (OpenSpec.upto spanTextsSpec)) spanTextsUptoCard

/-- THE SECOND FORM's CARD OF 'transhumancelaw3.SpanNormed'. -/
def spanNormedUptoCard : Claim7 := { stood := { row := spanNormedUptoRow, standIns := [], harness := (true, "677dda388697c3be81f00c8f3e7162a91e326615aec89fc25f0adc6f7f408f5b"), looks := false }, kinds := [], alts := [], laidByText := true, laidKinds := [.data, .data, .data, .data, .pinned], laidTests := true, laidLooks := .later }
def SpanNormedUptoCardSaid : Prop := Claim7.holds Tryz.pinned (.plain (OpenSpec.upto spanNormedSpec)) spanNormedUptoCard

/-- THE SECOND FORM's CARD OF 'transhumancelaw3.SpanEnds'. -/
def spanEndsUptoCard : Claim7 := { stood := { row := spanEndsUptoRow, standIns := [], harness := (true, "677dda388697c3be81f00c8f3e7162a91e326615aec89fc25f0adc6f7f408f5b"), looks := false }, kinds := [], alts := [], laidByText := true, laidKinds := [.data, .data, .data, .data, .pinned], laidTests := true, laidLooks := .later }
def SpanEndsUptoCardSaid : Prop := Claim7.holds Tryz.pinned (.plain (OpenSpec.upto spanEndsSpec)) spanEndsUptoCard

/-- THE SECOND FORM's CARD OF 'transhumancelaw3.SpanKnown'. -/
def spanKnownUptoCard : Claim7 := { stood := { row := spanKnownUptoRow, standIns := [], harness := (true, "677dda388697c3be81f00c8f3e7162a91e326615aec89fc25f0adc6f7f408f5b"), looks := false }, kinds := [], alts := [], laidByText := true, laidKinds := [.data, .data, .data, .data, .pinned], laidTests := true, laidLooks := .later }
def SpanKnownUptoCardSaid : Prop := Claim7.holds Tryz.pinned (.plain (OpenSpec.upto spanKnownSpec)) spanKnownUptoCard

/-- THE SECOND FORM's CARD OF 'transhumancelaw3.SpanBad'. -/
def spanBadUptoCard : Claim7 := { stood := { row := spanBadUptoRow, standIns := [], harness := (true, "677dda388697c3be81f00c8f3e7162a91e326615aec89fc25f0adc6f7f408f5b"), looks := false }, kinds := [], alts := [], laidByText := true, laidKinds := [.data, .data, .data, .data, .pinned], laidTests := true, laidLooks := .later }
def SpanBadUptoCardSaid : Prop := Claim7.holds Tryz.pinned (.plain (OpenSpec.upto spanBadSpec)) spanBadUptoCard

/-- THE SECOND FORM's CARD OF 'transhumancelaw3.SpanBlanks'. -/
def spanBlanksUptoCard : Claim7 := { stood := { row := spanBlanksUptoRow, standIns := [], harness := (true, "677dda388697c3be81f00c8f3e7162a91e326615aec89fc25f0adc6f7f408f5b"), looks := false }, kinds := [], alts := [], laidByText := true, laidKinds := [.data, .data, .data, .data, .pinned], laidTests := true, laidLooks := .later }
def SpanBlanksUptoCardSaid : Prop := Claim7.holds Tryz.pinned (.plain (OpenSpec.upto spanBlanksSpec)) spanBlanksUptoCard

/-- THE SECOND FORM's CARD OF 'transhumancelaw3.SpanOwn'. -/
def spanOwnUptoCard : Claim7 := { stood := { row := spanOwnUptoRow, standIns := [], harness := (true, "677dda388697c3be81f00c8f3e7162a91e326615aec89fc25f0adc6f7f408f5b"), looks := false }, kinds := [], alts := [], laidByText := true, laidKinds := [.data, .data, .data, .data, .pinned], laidTests := true, laidLooks := .later }
def SpanOwnUptoCardSaid : Prop := Claim7.holds Tryz.pinned (.plain (OpenSpec.upto spanOwnSpec)) spanOwnUptoCard
end Rows
end Go.Proofs.YtildhhdbikpbaaaGreatDoor
