/-
  DERIVED. GIVEN WITH THE SEED: THE CARDS: each row of YtajplppeijmfpaaDoorRows.lean that lists a variable, with what it lists TIED to the program's text (the seventh form; the later family's looks); each row that meets fmt, with fmt's text TOLD by the authors' own Lean function (tested against real Go, not proved from fmt's source: count such statements apart). THE CARD IS WHAT COUNTS. Prove the row's statement (the work); the ties are given (YtajplppeijmfpaaDoorTie.lean); close each card by the builder's one call (the guide's Derived/Test/ToyasCard.lean, 'card_holds'). Laid BY PROGRAM, IN A SANDBOX (cutbox-door.mjs). By AI agents, Wed Nov 11 2026. No macro, syntax, notation, axiom, sorry.
-/
import Derived.Test.YtajplppeijmfpaaDoorRows
import GoSem.ClaimSeven
namespace Go.Proofs.YtajplppeijmfpaaDoor
namespace Rows

/-- THE TIED CARD OF 'arbiterlaw03.FlagsParse'. -/
def flagsParseCard : Claim7 := { stood := { row := flagsParseRow, standIns := [], harness := (true, "8317b357a319a6496641b17fc57c277fd0ee8702f71f89c9258584f12994bd39"), looks := false }, kinds := [], alts := [], laidByText := true, laidKinds := [.data, .pinned], laidTests := true, laidLooks := .later }
def FlagsParseCardSaid : Prop := Claim7.holds Tryd.pinned (.plain (OpenSpec.ofChange flagsParseSpec)) flagsParseCard

/-- THE TIED CARD OF 'arbiterlaw03.FlagsBack'. -/
def flagsBackCard : Claim7 := { stood := { row := flagsBackRow, standIns := [], harness := (true, "8317b357a319a6496641b17fc57c277fd0ee8702f71f89c9258584f12994bd39"), looks := false }, kinds := [], alts := [], laidByText := true, laidKinds := [.data, .pinned], laidTests := true, laidLooks := .later }
def FlagsBackCardSaid : Prop := Claim7.holds Tryd.pinned (.plain (OpenSpec.ofChange flagsBackSpec)) flagsBackCard

/-- THE TIED CARD OF 'arbiterlaw01.NamesKeeps'. -/
def namesKeepsCard : Claim7 := { stood := { row := namesKeepsRow, standIns := [], harness := (true, "8317b357a319a6496641b17fc57c277fd0ee8702f71f89c9258584f12994bd39"), looks := false }, kinds := [], alts := [], laidByText := true, laidKinds := [.data, .pinned], laidTests := true, laidLooks := .later }
def NamesKeepsCardSaid : Prop := Claim7.holds Tryd.pinned (.plain (OpenSpec.ofChange namesKeepsSpec)) namesKeepsCard

/-- THE TIED CARD OF 'arbiterlaw02.TypesDescs'. -/
def typesDescsCard : Claim7 := { stood := { row := typesDescsRow, standIns := [], harness := (true, "8317b357a319a6496641b17fc57c277fd0ee8702f71f89c9258584f12994bd39"), looks := false }, kinds := [], alts := [], laidByText := true, laidKinds := [.data, .pinned], laidTests := true, laidLooks := .later }
def TypesDescsCardSaid : Prop := Claim7.holds Tryd.pinned (.plain (OpenSpec.ofChange typesDescsSpec)) typesDescsCard

/-- THE TIED CARD OF 'arbiterlaw02.TypesTexts'. -/
def typesTextsCard : Claim7 := { stood := { row := typesTextsRow, standIns := [], harness := (true, "8317b357a319a6496641b17fc57c277fd0ee8702f71f89c9258584f12994bd39"), looks := false }, kinds := [], alts := [], laidByText := true, laidKinds := [.data, .pinned], laidTests := true, laidLooks := .later }
def TypesTextsCardSaid : Prop := Claim7.holds Tryd.pinned (.plain (OpenSpec.ofChange typesTextsSpec)) typesTextsCard

/-- THE SECOND FORM's CARD OF 'arbiterlaw03.FlagsParse'. -/
def flagsParseUptoCard : Claim7 := { stood := { row := flagsParseUptoRow, standIns := [], harness := (true, "8317b357a319a6496641b17fc57c277fd0ee8702f71f89c9258584f12994bd39"), looks := false }, kinds := [], alts := [], laidByText := true, laidKinds := [.data, .pinned], laidTests := true, laidLooks := .later }
def FlagsParseUptoCardSaid : Prop := Claim7.holds Tryd.pinned (.plain (OpenSpec.upto flagsParseSpec)) flagsParseUptoCard

/-- THE SECOND FORM's CARD OF 'arbiterlaw03.FlagsBack'. -/
def flagsBackUptoCard : Claim7 := { stood := { row := flagsBackUptoRow, standIns := [], harness := (true, "8317b357a319a6496641b17fc57c277fd0ee8702f71f89c9258584f12994bd39"), looks := false }, kinds := [], alts := [], laidByText := true, laidKinds := [.data, .pinned], laidTests := true, laidLooks := .later }
def FlagsBackUptoCardSaid : Prop := Claim7.holds Tryd.pinned (.plain (OpenSpec.upto flagsBackSpec)) flagsBackUptoCard

/-- THE SECOND FORM's CARD OF 'arbiterlaw01.NamesKeeps'. -/
def namesKeepsUptoCard : Claim7 := { stood := { row := namesKeepsUptoRow, standIns := [], harness := (true, "8317b357a319a6496641b17fc57c277fd0ee8702f71f89c9258584f12994bd39"), looks := false }, kinds := [], alts := [], laidByText := true, laidKinds := [.data, .pinned], laidTests := true, laidLooks := .later }
def NamesKeepsUptoCardSaid : Prop := Claim7.holds Tryd.pinned (.plain (OpenSpec.upto namesKeepsSpec)) namesKeepsUptoCard

/-- THE SECOND FORM's CARD OF 'arbiterlaw02.TypesDescs'. -/
def typesDescsUptoCard : Claim7 := { stood := { row := typesDescsUptoRow, standIns := [], harness := (true, "8317b357a319a6496641b17fc57c277fd0ee8702f71f89c9258584f12994bd39"), looks := false }, kinds := [], alts := [], laidByText := true, laidKinds := [.data, .pinned], laidTests := true, laidLooks := .later }
def TypesDescsUptoCardSaid : Prop := Claim7.holds Tryd.pinned (.plain (OpenSpec.upto typesDescsSpec)) typesDescsUptoCard

/-- THE SECOND FORM's CARD OF 'arbiterlaw02.TypesTexts'. -/
def typesTextsUptoCard : Claim7 := { stood := { row := typesTextsUptoRow, standIns := [], harness := (true, "8317b357a319a6496641b17fc57c277fd0ee8702f71f89c9258584f12994bd39"), looks := false }, kinds := [], alts := [], laidByText := true, laidKinds := [.data, .pinned], laidTests := true, laidLooks := .later }
def TypesTextsUptoCardSaid : Prop := Claim7.holds Tryd.pinned (.plain (OpenSpec.upto typesTextsSpec)) typesTextsUptoCard
end Rows
end Go.Proofs.YtajplppeijmfpaaDoor
