/-
  DERIVED. GIVEN WITH THE SEED: THE CARDS: each row of YtpcdfjifhoofjaaDoorRows.lean that lists a variable, with what it lists TIED to the program's text (the seventh form; the later family's looks); each row that meets fmt, with fmt's text TOLD by the authors' own Lean function (tested against real Go, not proved from fmt's source: count such statements apart). THE CARD IS WHAT COUNTS. Prove the row's statement (the work); the ties are given (YtpcdfjifhoofjaaDoorTie.lean); close each card by the builder's one call (the guide's Derived/Test/ToyasCard.lean, 'card_holds'). Laid BY PROGRAM, IN A SANDBOX (cutbox-door.mjs). By AI agents, Wed Nov 11 2026. No macro, syntax, notation, axiom, sorry.
-/
import Derived.Test.YtpcdfjifhoofjaaDoorRows
import GoSem.ClaimSeven
namespace Go.Proofs.YtpcdfjifhoofjaaDoor
namespace Rows

/-- THE TIED CARD OF 'arbiterlaw01.NamesValid'. -/
def namesValidCard : Claim7 := { stood := { row := namesValidRow, standIns := [], harness := (true, "85da0f36050a4874ddb6589c98df47fbec5baa8ad31f200f9764f2351e2f3d98"), looks := false }, kinds := [], alts := [], laidByText := true, laidKinds := [.data, .pinned], laidTests := true, laidLooks := .later }
def NamesValidCardSaid : Prop := Claim7.holds Tryd.pinned (.plain (OpenSpec.ofChange namesValidSpec)) namesValidCard

/-- THE TIED CARD OF 'arbiterlaw01.NamesOrder'. -/
def namesOrderCard : Claim7 := { stood := { row := namesOrderRow, standIns := [], harness := (true, "85da0f36050a4874ddb6589c98df47fbec5baa8ad31f200f9764f2351e2f3d98"), looks := false }, kinds := [], alts := [], laidByText := true, laidKinds := [.data, .pinned], laidTests := true, laidLooks := .later }
def NamesOrderCardSaid : Prop := Claim7.holds Tryd.pinned (.plain (OpenSpec.ofChange namesOrderSpec)) namesOrderCard

/-- THE TIED CARD OF 'arbiterlaw01.NamesKeeps'. -/
def namesKeepsCard : Claim7 := { stood := { row := namesKeepsRow, standIns := [], harness := (true, "85da0f36050a4874ddb6589c98df47fbec5baa8ad31f200f9764f2351e2f3d98"), looks := false }, kinds := [], alts := [], laidByText := true, laidKinds := [.data, .pinned], laidTests := true, laidLooks := .later }
def NamesKeepsCardSaid : Prop := Claim7.holds Tryd.pinned (.plain (OpenSpec.ofChange namesKeepsSpec)) namesKeepsCard

/-- THE TIED CARD OF 'arbiterlaw01.NamesCuts'. -/
def namesCutsCard : Claim7 := { stood := { row := namesCutsRow, standIns := [], harness := (true, "85da0f36050a4874ddb6589c98df47fbec5baa8ad31f200f9764f2351e2f3d98"), looks := false }, kinds := [], alts := [], laidByText := true, laidKinds := [.data, .pinned], laidTests := true, laidLooks := .later }
def NamesCutsCardSaid : Prop := Claim7.holds Tryd.pinned (.plain (OpenSpec.ofChange namesCutsSpec)) namesCutsCard

/-- THE TIED CARD OF 'arbiterlaw02.TypesParse'. -/
def typesParseCard : Claim7 := { stood := { row := typesParseRow, standIns := [], harness := (true, "85da0f36050a4874ddb6589c98df47fbec5baa8ad31f200f9764f2351e2f3d98"), looks := false }, kinds := [], alts := [], laidByText := true, laidKinds := [.data, .pinned], laidTests := true, laidLooks := .later }
def TypesParseCardSaid : Prop := Claim7.holds Tryd.pinned (.plain (OpenSpec.ofChange typesParseSpec)) typesParseCard

/-- THE TIED CARD OF 'arbiterlaw01.NamesPlays'. -/
def namesPlaysCard : Claim7 := { stood := { row := namesPlaysRow, standIns := [], harness := (true, "85da0f36050a4874ddb6589c98df47fbec5baa8ad31f200f9764f2351e2f3d98"), looks := false }, kinds := [], alts := [], laidByText := true, laidKinds := [.data, .pinned], laidTests := true, laidLooks := .later }
def NamesPlaysCardSaid : Prop := Claim7.holds Tryd.pinned (.plain (OpenSpec.ofChange namesPlaysSpec)) namesPlaysCard

/-- THE TIED CARD OF 'arbiterlaw02.TypesWrite'. -/
def typesWriteCard : Claim7 := { stood := { row := typesWriteRow, standIns := [], harness := (true, "85da0f36050a4874ddb6589c98df47fbec5baa8ad31f200f9764f2351e2f3d98"), looks := false }, kinds := [], alts := [], laidByText := true, laidKinds := [.data, .pinned], laidTests := true, laidLooks := .later }
def TypesWriteCardSaid : Prop := Claim7.holds Tryd.pinned (.plain (OpenSpec.ofChange typesWriteSpec)) typesWriteCard

/-- THE TIED CARD OF 'arbiterlaw02.TypesBack'. -/
def typesBackCard : Claim7 := { stood := { row := typesBackRow, standIns := [], harness := (true, "85da0f36050a4874ddb6589c98df47fbec5baa8ad31f200f9764f2351e2f3d98"), looks := false }, kinds := [], alts := [], laidByText := true, laidKinds := [.data, .pinned], laidTests := true, laidLooks := .later }
def TypesBackCardSaid : Prop := Claim7.holds Tryd.pinned (.plain (OpenSpec.ofChange typesBackSpec)) typesBackCard

/-- THE TIED CARD OF 'arbiterlaw02.TypesDescs'. -/
def typesDescsCard : Claim7 := { stood := { row := typesDescsRow, standIns := [], harness := (true, "85da0f36050a4874ddb6589c98df47fbec5baa8ad31f200f9764f2351e2f3d98"), looks := false }, kinds := [], alts := [], laidByText := true, laidKinds := [.data, .pinned], laidTests := true, laidLooks := .later }
def TypesDescsCardSaid : Prop := Claim7.holds Tryd.pinned (.plain (OpenSpec.ofChange typesDescsSpec)) typesDescsCard

/-- THE TIED CARD OF 'arbiterlaw02.TypesTexts'. -/
def typesTextsCard : Claim7 := { stood := { row := typesTextsRow, standIns := [], harness := (true, "85da0f36050a4874ddb6589c98df47fbec5baa8ad31f200f9764f2351e2f3d98"), looks := false }, kinds := [], alts := [], laidByText := true, laidKinds := [.data, .pinned], laidTests := true, laidLooks := .later }
def TypesTextsCardSaid : Prop := Claim7.holds Tryd.pinned (.plain (OpenSpec.ofChange typesTextsSpec)) typesTextsCard

/-- THE SECOND FORM's CARD OF 'arbiterlaw01.NamesValid'. -/
def namesValidUptoCard : Claim7 := { stood := { row := namesValidUptoRow, standIns := [], harness := (true, "85da0f36050a4874ddb6589c98df47fbec5baa8ad31f200f9764f2351e2f3d98"), looks := false }, kinds := [], alts := [], laidByText := true, laidKinds := [.data, .pinned], laidTests := true, laidLooks := .later }
def NamesValidUptoCardSaid : Prop := Claim7.holds Tryd.pinned (.plain (OpenSpec.upto namesValidSpec)) namesValidUptoCard

/-- THE SECOND FORM's CARD OF 'arbiterlaw01.NamesOrder'. -/
def namesOrderUptoCard : Claim7 := { stood := { row := namesOrderUptoRow, standIns := [], harness := (true, "85da0f36050a4874ddb6589c98df47fbec5baa8ad31f200f9764f2351e2f3d98"), looks := false }, kinds := [], alts := [], laidByText := true, laidKinds := [.data, .pinned], laidTests := true, laidLooks := .later }
def NamesOrderUptoCardSaid : Prop := Claim7.holds Tryd.pinned (.plain (OpenSpec.upto namesOrderSpec)) namesOrderUptoCard

/-- THE SECOND FORM's CARD OF 'arbiterlaw01.NamesKeeps'. -/
def namesKeepsUptoCard : Claim7 := { stood := { row := namesKeepsUptoRow, standIns := [], harness := (true, "85da0f36050a4874ddb6589c98df47fbec5baa8ad31f200f9764f2351e2f3d98"), looks := false }, kinds := [], alts := [], laidByText := true, laidKinds := [.data, .pinned], laidTests := true, laidLooks := .later }
def NamesKeepsUptoCardSaid : Prop := Claim7.holds Tryd.pinned (.plain (OpenSpec.upto namesKeepsSpec)) namesKeepsUptoCard

/-- THE SECOND FORM's CARD OF 'arbiterlaw01.NamesCuts'. -/
def namesCutsUptoCard : Claim7 := { stood := { row := namesCutsUptoRow, standIns := [], harness := (true, "85da0f36050a4874ddb6589c98df47fbec5baa8ad31f200f9764f2351e2f3d98"), looks := false }, kinds := [], alts := [], laidByText := true, laidKinds := [.data, .pinned], laidTests := true, laidLooks := .later }
def NamesCutsUptoCardSaid : Prop := Claim7.holds Tryd.pinned (.plain (OpenSpec.upto namesCutsSpec)) namesCutsUptoCard

/-- THE SECOND FORM's CARD OF 'arbiterlaw02.TypesParse'. -/
def typesParseUptoCard : Claim7 := { stood := { row := typesParseUptoRow, standIns := [], harness := (true, "85da0f36050a4874ddb6589c98df47fbec5baa8ad31f200f9764f2351e2f3d98"), looks := false }, kinds := [], alts := [], laidByText := true, laidKinds := [.data, .pinned], laidTests := true, laidLooks := .later }
def TypesParseUptoCardSaid : Prop := Claim7.holds Tryd.pinned (.plain (OpenSpec.upto typesParseSpec)) typesParseUptoCard

/-- THE SECOND FORM's CARD OF 'arbiterlaw01.NamesPlays'. -/
def namesPlaysUptoCard : Claim7 := { stood := { row := namesPlaysUptoRow, standIns := [], harness := (true, "85da0f36050a4874ddb6589c98df47fbec5baa8ad31f200f9764f2351e2f3d98"), looks := false }, kinds := [], alts := [], laidByText := true, laidKinds := [.data, .pinned], laidTests := true, laidLooks := .later }
def NamesPlaysUptoCardSaid : Prop := Claim7.holds Tryd.pinned (.plain (OpenSpec.upto namesPlaysSpec)) namesPlaysUptoCard

/-- THE SECOND FORM's CARD OF 'arbiterlaw02.TypesWrite'. -/
def typesWriteUptoCard : Claim7 := { stood := { row := typesWriteUptoRow, standIns := [], harness := (true, "85da0f36050a4874ddb6589c98df47fbec5baa8ad31f200f9764f2351e2f3d98"), looks := false }, kinds := [], alts := [], laidByText := true, laidKinds := [.data, .pinned], laidTests := true, laidLooks := .later }
def TypesWriteUptoCardSaid : Prop := Claim7.holds Tryd.pinned (.plain (OpenSpec.upto typesWriteSpec)) typesWriteUptoCard

/-- THE SECOND FORM's CARD OF 'arbiterlaw02.TypesBack'. -/
def typesBackUptoCard : Claim7 := { stood := { row := typesBackUptoRow, standIns := [], harness := (true, "85da0f36050a4874ddb6589c98df47fbec5baa8ad31f200f9764f2351e2f3d98"), looks := false }, kinds := [], alts := [], laidByText := true, laidKinds := [.data, .pinned], laidTests := true, laidLooks := .later }
def TypesBackUptoCardSaid : Prop := Claim7.holds Tryd.pinned (.plain (OpenSpec.upto typesBackSpec)) typesBackUptoCard

/-- THE SECOND FORM's CARD OF 'arbiterlaw02.TypesDescs'. -/
def typesDescsUptoCard : Claim7 := { stood := { row := typesDescsUptoRow, standIns := [], harness := (true, "85da0f36050a4874ddb6589c98df47fbec5baa8ad31f200f9764f2351e2f3d98"), looks := false }, kinds := [], alts := [], laidByText := true, laidKinds := [.data, .pinned], laidTests := true, laidLooks := .later }
def TypesDescsUptoCardSaid : Prop := Claim7.holds Tryd.pinned (.plain (OpenSpec.upto typesDescsSpec)) typesDescsUptoCard

/-- THE SECOND FORM's CARD OF 'arbiterlaw02.TypesTexts'. -/
def typesTextsUptoCard : Claim7 := { stood := { row := typesTextsUptoRow, standIns := [], harness := (true, "85da0f36050a4874ddb6589c98df47fbec5baa8ad31f200f9764f2351e2f3d98"), looks := false }, kinds := [], alts := [], laidByText := true, laidKinds := [.data, .pinned], laidTests := true, laidLooks := .later }
def TypesTextsUptoCardSaid : Prop := Claim7.holds Tryd.pinned (.plain (OpenSpec.upto typesTextsSpec)) typesTextsUptoCard
end Rows
end Go.Proofs.YtpcdfjifhoofjaaDoor
