/-
  NARROWER THAN 'FOR EVERY INPUT', by the rows' own cells (each row's printed sentence says how): BuildMore: laid · BuildExcludes: laid · BuildMain: laid · BuildBoth: laid · BuildFinds: laid · BuildMeans: laid · BuildOwn: laid · BuildOne: laid · BuildAll: laid · BuildWhys: laid.
  DERIVED. THE GIVEN ROWS OF THIS SEAT. 10 by the template 'for every input the law returns true; each argument reads behind the call as it read before'; 0 by the template 'total and deterministic' (their statements: YtmhlgndhcfdlbaaGreatDoorTotals.lean).
  GIVEN WITH THE SEED: the statements are not yours to turn. If you find one false, say at which input.
  Laid BY PROGRAM, IN A SANDBOX (cutbox-rows.mjs): the forced cells as the released guide's own fill.sh prints them over the translation 5e408b7361e3744f… (all of the seat's roots in one cut). By AI agents, Wed Nov 11 2026. No macro, syntax, notation, axiom, sorry.
-/
import Derived.Test.YtmhlgndhcfdlbaaGreatDoorChecked
import GoSem.PinnedTables
import GoSem.Claim
import GoSem.ClaimJoined
import GoSem.ClaimMapViews
import Derived.JoinedTies
import Derived.KernelRfl
namespace Go.Proofs.YtmhlgndhcfdlbaaGreatDoor
/- THE CELL 'sum', in the pinned program and in every row, IS THE sha256 OF THE DUMP (.gsa) THAT YtmhlgndhcfdlbaaGreatDoorProg.lean LOADS. Nothing in Lean hashes anything: it is a label: what it is worth is what the hold of that sum in a sandbox is worth. -/
noncomputable def Tryz.pinned : Pinned := { name := "ytmhlgndhcfdlbaagreatdoor", sum := "5e408b7361e3744f82165cbc36e30fa847cff33dfae3d5baeb35da37d679225a", checked := Tryz.checked }
namespace Rows
def none {H : Type} : Left H := { results := [], args := [] }

/- WHAT THE LISTED PACKAGE-LEVEL VARIABLES READ AS WHEN THE CALL BEGINS. Each datum BY PROGRAM (the guide's laid-datum.mjs) off the statement by which the dump's own 'gosem.cut.vars' lays the variable. In a bare row this is a premise. The card (YtmhlgndhcfdlbaaGreatDoorCards.lean) ties it to the program's text. -/
def laid_unicode_utf8_acceptRanges {H : Type} : DataW H := .agg [.agg [.lit (.int .u8 128), .lit (.int .u8 191)], .agg [.lit (.int .u8 160), .lit (.int .u8 191)], .agg [.lit (.int .u8 128), .lit (.int .u8 159)], .agg [.lit (.int .u8 144), .lit (.int .u8 191)], .agg [.lit (.int .u8 128), .lit (.int .u8 143)], .agg [.lit (.int .u8 0), .lit (.int .u8 0)], .agg [.lit (.int .u8 0), .lit (.int .u8 0)], .agg [.lit (.int .u8 0), .lit (.int .u8 0)], .agg [.lit (.int .u8 0), .lit (.int .u8 0)], .agg [.lit (.int .u8 0), .lit (.int .u8 0)], .agg [.lit (.int .u8 0), .lit (.int .u8 0)], .agg [.lit (.int .u8 0), .lit (.int .u8 0)], .agg [.lit (.int .u8 0), .lit (.int .u8 0)], .agg [.lit (.int .u8 0), .lit (.int .u8 0)], .agg [.lit (.int .u8 0), .lit (.int .u8 0)], .agg [.lit (.int .u8 0), .lit (.int .u8 0)]]
/-- One of Go's own tables, pinned by name: the form's constant. -/
def laid_unicode_utf8_first : DataW Unit := Go.Pinned.utf8First

/-- 'transhumancelaw10.BuildMore': WHATEVER THE INPUT: true; the input reads as it did. -/
def buildMoreSpec : ChangeSpec := { name := "buildMore", fn := fun _ => fun
  | [d1, d2, d3, d4] => { results := [.lit (.bool true)], args := [d1, d2, d3, d4] }
  | _ => none }
def buildMoreRow : OpenClaim := { program := "ytmhlgndhcfdlbaagreatdoor", sum := "5e408b7361e3744f82165cbc36e30fa847cff33dfae3d5baeb35da37d679225a", func := "transhumance/transhumancelaw10.BuildMore", spec := "buildMore", inPlace := ["internal/bytealg.CountString", "internal/bytealg.IndexByteString", "internal/bytealg.IndexString", "internal/bytealg.abigen_runtime_cmpstring"], unfollowed := true, recurses := true, named := ["unicode/utf8.first", "unicode/utf8.acceptRanges", "internal/bytealg.MaxLen"], plainKeys := false, apart := false, laid := [("unicode/utf8.acceptRanges", laid_unicode_utf8_acceptRanges), ("unicode/utf8.first", laid_unicode_utf8_first)] }
def BuildMoreSaid : Prop := buildMoreRow.holds Tryz.pinned (OpenSpec.ofChange buildMoreSpec)

/-- ITS FALSE NEIGHBOUR: 'it returns false'. Refute it at one input. -/
def buildMoreWrong : ChangeSpec := { name := "buildMore", fn := fun _ => fun
  | [d1, d2, d3, d4] => { results := [.lit (.bool false)], args := [d1, d2, d3, d4] }
  | _ => none }
def BuildMoreWrongFalsely : Prop := buildMoreRow.holds Tryz.pinned (OpenSpec.ofChange buildMoreWrong)

/-- 'transhumancelaw10.BuildExcludes': WHATEVER THE INPUT: true; the input reads as it did. -/
def buildExcludesSpec : ChangeSpec := { name := "buildExcludes", fn := fun _ => fun
  | [d1, d2, d3, d4] => { results := [.lit (.bool true)], args := [d1, d2, d3, d4] }
  | _ => none }
def buildExcludesRow : OpenClaim := { program := "ytmhlgndhcfdlbaagreatdoor", sum := "5e408b7361e3744f82165cbc36e30fa847cff33dfae3d5baeb35da37d679225a", func := "transhumance/transhumancelaw10.BuildExcludes", spec := "buildExcludes", inPlace := ["internal/bytealg.CountString", "internal/bytealg.IndexByteString", "internal/bytealg.IndexString", "internal/bytealg.abigen_runtime_cmpstring"], unfollowed := true, recurses := true, named := ["unicode/utf8.first", "unicode/utf8.acceptRanges", "internal/bytealg.MaxLen"], plainKeys := false, apart := false, laid := [("unicode/utf8.acceptRanges", laid_unicode_utf8_acceptRanges), ("unicode/utf8.first", laid_unicode_utf8_first)] }
def BuildExcludesSaid : Prop := buildExcludesRow.holds Tryz.pinned (OpenSpec.ofChange buildExcludesSpec)

/-- ITS FALSE NEIGHBOUR: 'it returns false'. Refute it at one input. -/
def buildExcludesWrong : ChangeSpec := { name := "buildExcludes", fn := fun _ => fun
  | [d1, d2, d3, d4] => { results := [.lit (.bool false)], args := [d1, d2, d3, d4] }
  | _ => none }
def BuildExcludesWrongFalsely : Prop := buildExcludesRow.holds Tryz.pinned (OpenSpec.ofChange buildExcludesWrong)

/-- 'transhumancelaw10.BuildMain': WHATEVER THE INPUT: true; the input reads as it did. -/
def buildMainSpec : ChangeSpec := { name := "buildMain", fn := fun _ => fun
  | [d1, d2, d3, d4] => { results := [.lit (.bool true)], args := [d1, d2, d3, d4] }
  | _ => none }
def buildMainRow : OpenClaim := { program := "ytmhlgndhcfdlbaagreatdoor", sum := "5e408b7361e3744f82165cbc36e30fa847cff33dfae3d5baeb35da37d679225a", func := "transhumance/transhumancelaw10.BuildMain", spec := "buildMain", inPlace := ["internal/bytealg.CountString", "internal/bytealg.IndexByteString", "internal/bytealg.IndexString", "internal/bytealg.abigen_runtime_cmpstring"], unfollowed := true, recurses := true, named := ["unicode/utf8.first", "unicode/utf8.acceptRanges", "internal/bytealg.MaxLen"], plainKeys := false, apart := false, laid := [("unicode/utf8.acceptRanges", laid_unicode_utf8_acceptRanges), ("unicode/utf8.first", laid_unicode_utf8_first)] }
def BuildMainSaid : Prop := buildMainRow.holds Tryz.pinned (OpenSpec.ofChange buildMainSpec)

/-- ITS FALSE NEIGHBOUR: 'it returns false'. Refute it at one input. -/
def buildMainWrong : ChangeSpec := { name := "buildMain", fn := fun _ => fun
  | [d1, d2, d3, d4] => { results := [.lit (.bool false)], args := [d1, d2, d3, d4] }
  | _ => none }
def BuildMainWrongFalsely : Prop := buildMainRow.holds Tryz.pinned (OpenSpec.ofChange buildMainWrong)

/-- 'transhumancelaw10.BuildBoth': WHATEVER THE INPUT: true; the input reads as it did. -/
def buildBothSpec : ChangeSpec := { name := "buildBoth", fn := fun _ => fun
  | [d1, d2, d3] => { results := [.lit (.bool true)], args := [d1, d2, d3] }
  | _ => none }
def buildBothRow : OpenClaim := { program := "ytmhlgndhcfdlbaagreatdoor", sum := "5e408b7361e3744f82165cbc36e30fa847cff33dfae3d5baeb35da37d679225a", func := "transhumance/transhumancelaw10.BuildBoth", spec := "buildBoth", inPlace := ["internal/bytealg.CountString", "internal/bytealg.IndexByteString", "internal/bytealg.IndexString", "internal/bytealg.abigen_runtime_cmpstring"], unfollowed := true, recurses := true, named := ["unicode/utf8.first", "unicode/utf8.acceptRanges", "internal/bytealg.MaxLen"], plainKeys := false, apart := false, laid := [("unicode/utf8.acceptRanges", laid_unicode_utf8_acceptRanges), ("unicode/utf8.first", laid_unicode_utf8_first)] }
def BuildBothSaid : Prop := buildBothRow.holds Tryz.pinned (OpenSpec.ofChange buildBothSpec)

/-- ITS FALSE NEIGHBOUR: 'it returns false'. Refute it at one input. -/
def buildBothWrong : ChangeSpec := { name := "buildBoth", fn := fun _ => fun
  | [d1, d2, d3] => { results := [.lit (.bool false)], args := [d1, d2, d3] }
  | _ => none }
def BuildBothWrongFalsely : Prop := buildBothRow.holds Tryz.pinned (OpenSpec.ofChange buildBothWrong)

/-- 'transhumancelaw10.BuildFinds': WHATEVER THE INPUT: true; the input reads as it did. -/
def buildFindsSpec : ChangeSpec := { name := "buildFinds", fn := fun _ => fun
  | [d1, d2, d3, d4] => { results := [.lit (.bool true)], args := [d1, d2, d3, d4] }
  | _ => none }
def buildFindsRow : OpenClaim := { program := "ytmhlgndhcfdlbaagreatdoor", sum := "5e408b7361e3744f82165cbc36e30fa847cff33dfae3d5baeb35da37d679225a", func := "transhumance/transhumancelaw10.BuildFinds", spec := "buildFinds", inPlace := ["internal/bytealg.CountString", "internal/bytealg.IndexByteString", "internal/bytealg.IndexString", "internal/bytealg.abigen_runtime_cmpstring"], unfollowed := true, recurses := true, named := ["unicode/utf8.first", "unicode/utf8.acceptRanges", "internal/bytealg.MaxLen"], plainKeys := false, apart := false, laid := [("unicode/utf8.acceptRanges", laid_unicode_utf8_acceptRanges), ("unicode/utf8.first", laid_unicode_utf8_first)] }
def BuildFindsSaid : Prop := buildFindsRow.holds Tryz.pinned (OpenSpec.ofChange buildFindsSpec)

/-- ITS FALSE NEIGHBOUR: 'it returns false'. Refute it at one input. -/
def buildFindsWrong : ChangeSpec := { name := "buildFinds", fn := fun _ => fun
  | [d1, d2, d3, d4] => { results := [.lit (.bool false)], args := [d1, d2, d3, d4] }
  | _ => none }
def BuildFindsWrongFalsely : Prop := buildFindsRow.holds Tryz.pinned (OpenSpec.ofChange buildFindsWrong)

/-- 'transhumancelaw10.BuildMeans': WHATEVER THE INPUT: true; the input reads as it did. -/
def buildMeansSpec : ChangeSpec := { name := "buildMeans", fn := fun _ => fun
  | [d1, d2, d3] => { results := [.lit (.bool true)], args := [d1, d2, d3] }
  | _ => none }
def buildMeansRow : OpenClaim := { program := "ytmhlgndhcfdlbaagreatdoor", sum := "5e408b7361e3744f82165cbc36e30fa847cff33dfae3d5baeb35da37d679225a", func := "transhumance/transhumancelaw10.BuildMeans", spec := "buildMeans", inPlace := ["internal/bytealg.CountString", "internal/bytealg.IndexByteString", "internal/bytealg.IndexString", "internal/bytealg.abigen_runtime_cmpstring"], unfollowed := true, recurses := true, named := ["unicode/utf8.first", "unicode/utf8.acceptRanges", "internal/bytealg.MaxLen"], plainKeys := false, apart := false, laid := [("unicode/utf8.acceptRanges", laid_unicode_utf8_acceptRanges), ("unicode/utf8.first", laid_unicode_utf8_first)] }
def BuildMeansSaid : Prop := buildMeansRow.holds Tryz.pinned (OpenSpec.ofChange buildMeansSpec)

/-- ITS FALSE NEIGHBOUR: 'it returns false'. Refute it at one input. -/
def buildMeansWrong : ChangeSpec := { name := "buildMeans", fn := fun _ => fun
  | [d1, d2, d3] => { results := [.lit (.bool false)], args := [d1, d2, d3] }
  | _ => none }
def BuildMeansWrongFalsely : Prop := buildMeansRow.holds Tryz.pinned (OpenSpec.ofChange buildMeansWrong)

/-- 'transhumancelaw10.BuildOwn': WHATEVER THE INPUT: true; the input reads as it did. -/
def buildOwnSpec : ChangeSpec := { name := "buildOwn", fn := fun _ => fun
  | [d1, d2, d3] => { results := [.lit (.bool true)], args := [d1, d2, d3] }
  | _ => none }
def buildOwnRow : OpenClaim := { program := "ytmhlgndhcfdlbaagreatdoor", sum := "5e408b7361e3744f82165cbc36e30fa847cff33dfae3d5baeb35da37d679225a", func := "transhumance/transhumancelaw10.BuildOwn", spec := "buildOwn", inPlace := ["internal/bytealg.CountString", "internal/bytealg.IndexByteString", "internal/bytealg.IndexString", "internal/bytealg.abigen_runtime_cmpstring"], unfollowed := true, recurses := true, named := ["unicode/utf8.first", "unicode/utf8.acceptRanges", "internal/bytealg.MaxLen"], plainKeys := false, apart := false, laid := [("unicode/utf8.acceptRanges", laid_unicode_utf8_acceptRanges), ("unicode/utf8.first", laid_unicode_utf8_first)] }
def BuildOwnSaid : Prop := buildOwnRow.holds Tryz.pinned (OpenSpec.ofChange buildOwnSpec)

/-- ITS FALSE NEIGHBOUR: 'it returns false'. Refute it at one input. -/
def buildOwnWrong : ChangeSpec := { name := "buildOwn", fn := fun _ => fun
  | [d1, d2, d3] => { results := [.lit (.bool false)], args := [d1, d2, d3] }
  | _ => none }
def BuildOwnWrongFalsely : Prop := buildOwnRow.holds Tryz.pinned (OpenSpec.ofChange buildOwnWrong)

/-- 'transhumancelaw10.BuildOne': WHATEVER THE INPUT: true; the input reads as it did. -/
def buildOneSpec : ChangeSpec := { name := "buildOne", fn := fun _ => fun
  | [d1, d2, d3, d4] => { results := [.lit (.bool true)], args := [d1, d2, d3, d4] }
  | _ => none }
def buildOneRow : OpenClaim := { program := "ytmhlgndhcfdlbaagreatdoor", sum := "5e408b7361e3744f82165cbc36e30fa847cff33dfae3d5baeb35da37d679225a", func := "transhumance/transhumancelaw10.BuildOne", spec := "buildOne", inPlace := ["internal/bytealg.CountString", "internal/bytealg.IndexByteString", "internal/bytealg.IndexString", "internal/bytealg.abigen_runtime_cmpstring"], unfollowed := true, recurses := true, named := ["unicode/utf8.first", "unicode/utf8.acceptRanges", "internal/bytealg.MaxLen"], plainKeys := false, apart := false, laid := [("unicode/utf8.acceptRanges", laid_unicode_utf8_acceptRanges), ("unicode/utf8.first", laid_unicode_utf8_first)] }
def BuildOneSaid : Prop := buildOneRow.holds Tryz.pinned (OpenSpec.ofChange buildOneSpec)

/-- ITS FALSE NEIGHBOUR: 'it returns false'. Refute it at one input. -/
def buildOneWrong : ChangeSpec := { name := "buildOne", fn := fun _ => fun
  | [d1, d2, d3, d4] => { results := [.lit (.bool false)], args := [d1, d2, d3, d4] }
  | _ => none }
def BuildOneWrongFalsely : Prop := buildOneRow.holds Tryz.pinned (OpenSpec.ofChange buildOneWrong)

/-- 'transhumancelaw10.BuildAll': WHATEVER THE INPUT: true; the input reads as it did. -/
def buildAllSpec : ChangeSpec := { name := "buildAll", fn := fun _ => fun
  | [d1, d2, d3, d4] => { results := [.lit (.bool true)], args := [d1, d2, d3, d4] }
  | _ => none }
def buildAllRow : OpenClaim := { program := "ytmhlgndhcfdlbaagreatdoor", sum := "5e408b7361e3744f82165cbc36e30fa847cff33dfae3d5baeb35da37d679225a", func := "transhumance/transhumancelaw10.BuildAll", spec := "buildAll", inPlace := ["internal/bytealg.CountString", "internal/bytealg.IndexByteString", "internal/bytealg.IndexString", "internal/bytealg.abigen_runtime_cmpstring"], unfollowed := true, recurses := true, named := ["unicode/utf8.first", "unicode/utf8.acceptRanges", "internal/bytealg.MaxLen"], plainKeys := false, apart := false, laid := [("unicode/utf8.acceptRanges", laid_unicode_utf8_acceptRanges), ("unicode/utf8.first", laid_unicode_utf8_first)] }
def BuildAllSaid : Prop := buildAllRow.holds Tryz.pinned (OpenSpec.ofChange buildAllSpec)

/-- ITS FALSE NEIGHBOUR: 'it returns false'. Refute it at one input. -/
def buildAllWrong : ChangeSpec := { name := "buildAll", fn := fun _ => fun
  | [d1, d2, d3, d4] => { results := [.lit (.bool false)], args := [d1, d2, d3, d4] }
  | _ => none }
def BuildAllWrongFalsely : Prop := buildAllRow.holds Tryz.pinned (OpenSpec.ofChange buildAllWrong)

/-- 'transhumancelaw10.BuildWhys': WHATEVER THE INPUT: true; the input reads as it did. -/
def buildWhysSpec : ChangeSpec := { name := "buildWhys", fn := fun _ => fun
  | [d1, d2, d3, d4] => { results := [.lit (.bool true)], args := [d1, d2, d3, d4] }
  | _ => none }
def buildWhysRow : OpenClaim := { program := "ytmhlgndhcfdlbaagreatdoor", sum := "5e408b7361e3744f82165cbc36e30fa847cff33dfae3d5baeb35da37d679225a", func := "transhumance/transhumancelaw10.BuildWhys", spec := "buildWhys", inPlace := ["internal/bytealg.CountString", "internal/bytealg.IndexByteString", "internal/bytealg.IndexString", "internal/bytealg.abigen_runtime_cmpstring"], unfollowed := true, recurses := true, named := ["unicode/utf8.first", "unicode/utf8.acceptRanges", "internal/bytealg.MaxLen"], plainKeys := false, apart := false, laid := [("unicode/utf8.acceptRanges", laid_unicode_utf8_acceptRanges), ("unicode/utf8.first", laid_unicode_utf8_first)] }
def BuildWhysSaid : Prop := buildWhysRow.holds Tryz.pinned (OpenSpec.ofChange buildWhysSpec)

/-- ITS FALSE NEIGHBOUR: 'it returns false'. Refute it at one input. -/
def buildWhysWrong : ChangeSpec := { name := "buildWhys", fn := fun _ => fun
  | [d1, d2, d3, d4] => { results := [.lit (.bool false)], args := [d1, d2, d3, d4] }
  | _ => none }
def BuildWhysWrongFalsely : Prop := buildWhysRow.holds Tryz.pinned (OpenSpec.ofChange buildWhysWrong)

/- THE SECOND FORM. 'bulk': how many values and letters a reading holds, each counted each time it is reached (what is shared counts as often as it is met; a slice's spare places count too). A statement '..UptoSaid' is the law's where the arguments, and the package variables that the reading takes, are together of bulk at most 1048576: NARROWER than '..Said'. Prove '..Said' where nothing that the law and all that it calls make is longer than what came in: it says more and counts as full. Else prove '..UptoSaid'. A law counts once. -/
mutual
def uptoBulk {H : Type} : DataW H → Nat
  | .lit (.string bytes) => bytes.length + 1
  | .lit _ => 1
  | .nil => 1
  | .ptr d => uptoBulk d + 1
  | .slice elems spare => uptoBulkAll elems + uptoBulkAll spare + 1
  | .agg parts => uptoBulkAll parts + 1
  | .iface _ d => uptoBulk d + 1
  | .map entries => uptoBulkEntries entries + 1
  | .held _ => 1
def uptoBulkAll {H : Type} : List (DataW H) → Nat
  | [] => 0
  | d :: r => uptoBulk d + uptoBulkAll r
def uptoBulkEntries {H : Type} : List (Lit × DataW H) → Nat
  | [] => 0
  | x :: r => uptoBulkEntry x + uptoBulkEntries r
def uptoBulkEntry {H : Type} : Lit × DataW H → Nat
  | (.string bytes, d) => bytes.length + uptoBulk d + 1
  | (_, d) => uptoBulk d + 1
 end
def uptoSmall : (H : Type) → List (DataW H) → Bool := fun _ ds => decide (uptoBulkAll ds ≤ 1048576)
def OpenSpec.upto (s : _root_.Go.ChangeSpec) : _root_.Go.OpenSpec := { _root_.Go.OpenSpec.ofChange s with cond := some uptoSmall }

/-- 'transhumancelaw10.BuildMore', WHERE WHAT IT READS IS OF BULK AT MOST 1048576: true; the input reads as it did. -/
def buildMoreUptoRow : OpenClaim := { program := "ytmhlgndhcfdlbaagreatdoor", sum := "5e408b7361e3744f82165cbc36e30fa847cff33dfae3d5baeb35da37d679225a", func := "transhumance/transhumancelaw10.BuildMore", spec := "buildMore", inPlace := ["internal/bytealg.CountString", "internal/bytealg.IndexByteString", "internal/bytealg.IndexString", "internal/bytealg.abigen_runtime_cmpstring"], unfollowed := true, recurses := true, named := ["unicode/utf8.first", "unicode/utf8.acceptRanges", "internal/bytealg.MaxLen"], plainKeys := false, apart := false, laid := [("unicode/utf8.acceptRanges", laid_unicode_utf8_acceptRanges), ("unicode/utf8.first", laid_unicode_utf8_first)], narrowed := true }
def BuildMoreUptoSaid : Prop := buildMoreUptoRow.holds Tryz.pinned (OpenSpec.upto buildMoreSpec)

/-- 'transhumancelaw10.BuildExcludes', WHERE WHAT IT READS IS OF BULK AT MOST 1048576: true; the input reads as it did. -/
def buildExcludesUptoRow : OpenClaim := { program := "ytmhlgndhcfdlbaagreatdoor", sum := "5e408b7361e3744f82165cbc36e30fa847cff33dfae3d5baeb35da37d679225a", func := "transhumance/transhumancelaw10.BuildExcludes", spec := "buildExcludes", inPlace := ["internal/bytealg.CountString", "internal/bytealg.IndexByteString", "internal/bytealg.IndexString", "internal/bytealg.abigen_runtime_cmpstring"], unfollowed := true, recurses := true, named := ["unicode/utf8.first", "unicode/utf8.acceptRanges", "internal/bytealg.MaxLen"], plainKeys := false, apart := false, laid := [("unicode/utf8.acceptRanges", laid_unicode_utf8_acceptRanges), ("unicode/utf8.first", laid_unicode_utf8_first)], narrowed := true }
def BuildExcludesUptoSaid : Prop := buildExcludesUptoRow.holds Tryz.pinned (OpenSpec.upto buildExcludesSpec)

/-- 'transhumancelaw10.BuildMain', WHERE WHAT IT READS IS OF BULK AT MOST 1048576: true; the input reads as it did. -/
def buildMainUptoRow : OpenClaim := { program := "ytmhlgndhcfdlbaagreatdoor", sum := "5e408b7361e3744f82165cbc36e30fa847cff33dfae3d5baeb35da37d679225a", func := "transhumance/transhumancelaw10.BuildMain", spec := "buildMain", inPlace := ["internal/bytealg.CountString", "internal/bytealg.IndexByteString", "internal/bytealg.IndexString", "internal/bytealg.abigen_runtime_cmpstring"], unfollowed := true, recurses := true, named := ["unicode/utf8.first", "unicode/utf8.acceptRanges", "internal/bytealg.MaxLen"], plainKeys := false, apart := false, laid := [("unicode/utf8.acceptRanges", laid_unicode_utf8_acceptRanges), ("unicode/utf8.first", laid_unicode_utf8_first)], narrowed := true }
def BuildMainUptoSaid : Prop := buildMainUptoRow.holds Tryz.pinned (OpenSpec.upto buildMainSpec)

/-- 'transhumancelaw10.BuildBoth', WHERE WHAT IT READS IS OF BULK AT MOST 1048576: true; the input reads as it did. -/
def buildBothUptoRow : OpenClaim := { program := "ytmhlgndhcfdlbaagreatdoor", sum := "5e408b7361e3744f82165cbc36e30fa847cff33dfae3d5baeb35da37d679225a", func := "transhumance/transhumancelaw10.BuildBoth", spec := "buildBoth", inPlace := ["internal/bytealg.CountString", "internal/bytealg.IndexByteString", "internal/bytealg.IndexString", "internal/bytealg.abigen_runtime_cmpstring"], unfollowed := true, recurses := true, named := ["unicode/utf8.first", "unicode/utf8.acceptRanges", "internal/bytealg.MaxLen"], plainKeys := false, apart := false, laid := [("unicode/utf8.acceptRanges", laid_unicode_utf8_acceptRanges), ("unicode/utf8.first", laid_unicode_utf8_first)], narrowed := true }
def BuildBothUptoSaid : Prop := buildBothUptoRow.holds Tryz.pinned (OpenSpec.upto buildBothSpec)

/-- 'transhumancelaw10.BuildFinds', WHERE WHAT IT READS IS OF BULK AT MOST 1048576: true; the input reads as it did. -/
def buildFindsUptoRow : OpenClaim := { program := "ytmhlgndhcfdlbaagreatdoor", sum := "5e408b7361e3744f82165cbc36e30fa847cff33dfae3d5baeb35da37d679225a", func := "transhumance/transhumancelaw10.BuildFinds", spec := "buildFinds", inPlace := ["internal/bytealg.CountString", "internal/bytealg.IndexByteString", "internal/bytealg.IndexString", "internal/bytealg.abigen_runtime_cmpstring"], unfollowed := true, recurses := true, named := ["unicode/utf8.first", "unicode/utf8.acceptRanges", "internal/bytealg.MaxLen"], plainKeys := false, apart := false, laid := [("unicode/utf8.acceptRanges", laid_unicode_utf8_acceptRanges), ("unicode/utf8.first", laid_unicode_utf8_first)], narrowed := true }
def BuildFindsUptoSaid : Prop := buildFindsUptoRow.holds Tryz.pinned (OpenSpec.upto buildFindsSpec)

/-- 'transhumancelaw10.BuildMeans', WHERE WHAT IT READS IS OF BULK AT MOST 1048576: true; the input reads as it did. -/
def buildMeansUptoRow : OpenClaim := { program := "ytmhlgndhcfdlbaagreatdoor", sum := "5e408b7361e3744f82165cbc36e30fa847cff33dfae3d5baeb35da37d679225a", func := "transhumance/transhumancelaw10.BuildMeans", spec := "buildMeans", inPlace := ["internal/bytealg.CountString", "internal/bytealg.IndexByteString", "internal/bytealg.IndexString", "internal/bytealg.abigen_runtime_cmpstring"], unfollowed := true, recurses := true, named := ["unicode/utf8.first", "unicode/utf8.acceptRanges", "internal/bytealg.MaxLen"], plainKeys := false, apart := false, laid := [("unicode/utf8.acceptRanges", laid_unicode_utf8_acceptRanges), ("unicode/utf8.first", laid_unicode_utf8_first)], narrowed := true }
def BuildMeansUptoSaid : Prop := buildMeansUptoRow.holds Tryz.pinned (OpenSpec.upto buildMeansSpec)

/-- 'transhumancelaw10.BuildOwn', WHERE WHAT IT READS IS OF BULK AT MOST 1048576: true; the input reads as it did. -/
def buildOwnUptoRow : OpenClaim := { program := "ytmhlgndhcfdlbaagreatdoor", sum := "5e408b7361e3744f82165cbc36e30fa847cff33dfae3d5baeb35da37d679225a", func := "transhumance/transhumancelaw10.BuildOwn", spec := "buildOwn", inPlace := ["internal/bytealg.CountString", "internal/bytealg.IndexByteString", "internal/bytealg.IndexString", "internal/bytealg.abigen_runtime_cmpstring"], unfollowed := true, recurses := true, named := ["unicode/utf8.first", "unicode/utf8.acceptRanges", "internal/bytealg.MaxLen"], plainKeys := false, apart := false, laid := [("unicode/utf8.acceptRanges", laid_unicode_utf8_acceptRanges), ("unicode/utf8.first", laid_unicode_utf8_first)], narrowed := true }
def BuildOwnUptoSaid : Prop := buildOwnUptoRow.holds Tryz.pinned (OpenSpec.upto buildOwnSpec)

/-- 'transhumancelaw10.BuildOne', WHERE WHAT IT READS IS OF BULK AT MOST 1048576: true; the input reads as it did. -/
def buildOneUptoRow : OpenClaim := { program := "ytmhlgndhcfdlbaagreatdoor", sum := "5e408b7361e3744f82165cbc36e30fa847cff33dfae3d5baeb35da37d679225a", func := "transhumance/transhumancelaw10.BuildOne", spec := "buildOne", inPlace := ["internal/bytealg.CountString", "internal/bytealg.IndexByteString", "internal/bytealg.IndexString", "internal/bytealg.abigen_runtime_cmpstring"], unfollowed := true, recurses := true, named := ["unicode/utf8.first", "unicode/utf8.acceptRanges", "internal/bytealg.MaxLen"], plainKeys := false, apart := false, laid := [("unicode/utf8.acceptRanges", laid_unicode_utf8_acceptRanges), ("unicode/utf8.first", laid_unicode_utf8_first)], narrowed := true }
def BuildOneUptoSaid : Prop := buildOneUptoRow.holds Tryz.pinned (OpenSpec.upto buildOneSpec)

/-- 'transhumancelaw10.BuildAll', WHERE WHAT IT READS IS OF BULK AT MOST 1048576: true; the input reads as it did. -/
def buildAllUptoRow : OpenClaim := { program := "ytmhlgndhcfdlbaagreatdoor", sum := "5e408b7361e3744f82165cbc36e30fa847cff33dfae3d5baeb35da37d679225a", func := "transhumance/transhumancelaw10.BuildAll", spec := "buildAll", inPlace := ["internal/bytealg.CountString", "internal/bytealg.IndexByteString", "internal/bytealg.IndexString", "internal/bytealg.abigen_runtime_cmpstring"], unfollowed := true, recurses := true, named := ["unicode/utf8.first", "unicode/utf8.acceptRanges", "internal/bytealg.MaxLen"], plainKeys := false, apart := false, laid := [("unicode/utf8.acceptRanges", laid_unicode_utf8_acceptRanges), ("unicode/utf8.first", laid_unicode_utf8_first)], narrowed := true }
def BuildAllUptoSaid : Prop := buildAllUptoRow.holds Tryz.pinned (OpenSpec.upto buildAllSpec)

/-- 'transhumancelaw10.BuildWhys', WHERE WHAT IT READS IS OF BULK AT MOST 1048576: true; the input reads as it did. -/
def buildWhysUptoRow : OpenClaim := { program := "ytmhlgndhcfdlbaagreatdoor", sum := "5e408b7361e3744f82165cbc36e30fa847cff33dfae3d5baeb35da37d679225a", func := "transhumance/transhumancelaw10.BuildWhys", spec := "buildWhys", inPlace := ["internal/bytealg.CountString", "internal/bytealg.IndexByteString", "internal/bytealg.IndexString", "internal/bytealg.abigen_runtime_cmpstring"], unfollowed := true, recurses := true, named := ["unicode/utf8.first", "unicode/utf8.acceptRanges", "internal/bytealg.MaxLen"], plainKeys := false, apart := false, laid := [("unicode/utf8.acceptRanges", laid_unicode_utf8_acceptRanges), ("unicode/utf8.first", laid_unicode_utf8_first)], narrowed := true }
def BuildWhysUptoSaid : Prop := buildWhysUptoRow.holds Tryz.pinned (OpenSpec.upto buildWhysSpec)

end Rows
end Go.Proofs.YtmhlgndhcfdlbaaGreatDoor
