/-
  DERIVED. GIVEN WITH THE SEED: THE CARDS: each row of YtaipkdglhfhhiaaGreatDoorRows.lean that lists a variable, with what it lists TIED to the program's text (the seventh form; the later family's looks); each row that meets fmt, with fmt's text TOLD by the authors' own Lean function (tested against real Go, not proved from fmt's source: count such statements apart). THE CARD IS WHAT COUNTS. Prove the row's statement (the work); the ties are given (YtaipkdglhfhhiaaGreatDoorTie.lean); close each card by the builder's one call (the guide's Derived/Test/ToyasCard.lean, 'card_holds'). Laid BY PROGRAM, IN A SANDBOX (cutbox-door.mjs). By AI agents, Wed Nov 11 2026. No macro, syntax, notation, axiom, sorry.
-/
import Derived.Test.YtaipkdglhfhhiaaGreatDoorRows
import GoSem.ClaimSeven
namespace Go.Proofs.YtaipkdglhfhhiaaGreatDoor
namespace Rows

/-- THE TIED CARD OF 'arbiterlaw08.AccessClasses'. -/
def accessClassesCard : Claim7 := { stood := { row := accessClassesRow, standIns := [], harness := (true, "98c3de2ea6be08adb922fdf9710e8dab3a8bb0c0d92a3f6894528604714f89b6"), looks := false }, kinds := [], alts := [], laidByText := true, laidKinds := [.data, .pinned], laidTests := true, laidLooks := .later }
def AccessClassesCardSaid : Prop := Claim7.holds Tryz.pinned (.plain (OpenSpec.ofChange accessClassesSpec)) accessClassesCard

/-- THE TIED CARD OF 'arbiterlaw08.AccessMethods'. -/
def accessMethodsCard : Claim7 := { stood := { row := accessMethodsRow, standIns := [], harness := (true, "98c3de2ea6be08adb922fdf9710e8dab3a8bb0c0d92a3f6894528604714f89b6"), looks := false }, kinds := [], alts := [], laidByText := true, laidKinds := [.data, .pinned], laidTests := true, laidLooks := .later }
def AccessMethodsCardSaid : Prop := Claim7.holds Tryz.pinned (.plain (OpenSpec.ofChange accessMethodsSpec)) accessMethodsCard

/-- THE TIED CARD OF 'arbiterlaw15.DisplayTests'. -/
def displayTestsCard : Claim7 := { stood := { row := displayTestsRow, standIns := [], harness := (true, "98c3de2ea6be08adb922fdf9710e8dab3a8bb0c0d92a3f6894528604714f89b6"), looks := false }, kinds := [], alts := [], laidByText := true, laidKinds := [.data, .pinned], laidTests := true, laidLooks := .later }
def DisplayTestsCardSaid : Prop := Claim7.holds Tryz.pinned (.plain (OpenSpec.ofChange displayTestsSpec)) displayTestsCard

/-- THE TIED CARD OF 'arbiterlaw15.DisplayBuilds'. -/
def displayBuildsCard : Claim7 := { stood := { row := displayBuildsRow, standIns := [], harness := (true, "98c3de2ea6be08adb922fdf9710e8dab3a8bb0c0d92a3f6894528604714f89b6"), looks := false }, kinds := [], alts := [], laidByText := true, laidKinds := [.data, .pinned], laidTests := true, laidLooks := .later }
def DisplayBuildsCardSaid : Prop := Claim7.holds Tryz.pinned (.plain (OpenSpec.ofChange displayBuildsSpec)) displayBuildsCard

/-- THE TIED CARD OF 'arbiterlaw07.ArraysPlays'. -/
def arraysPlaysCard : Claim7 := { stood := { row := arraysPlaysRow, standIns := [], harness := (true, "98c3de2ea6be08adb922fdf9710e8dab3a8bb0c0d92a3f6894528604714f89b6"), looks := false }, kinds := [], alts := [], laidByText := true, laidKinds := [.data, .pinned], laidTests := true, laidLooks := .later }
def ArraysPlaysCardSaid : Prop := Claim7.holds Tryz.pinned (.plain (OpenSpec.ofChange arraysPlaysSpec)) arraysPlaysCard

/-- THE TIED CARD OF 'arbiterlaw07.ArraysKeeps'. -/
def arraysKeepsCard : Claim7 := { stood := { row := arraysKeepsRow, standIns := [], harness := (true, "98c3de2ea6be08adb922fdf9710e8dab3a8bb0c0d92a3f6894528604714f89b6"), looks := false }, kinds := [], alts := [], laidByText := true, laidKinds := [.data, .pinned], laidTests := true, laidLooks := .later }
def ArraysKeepsCardSaid : Prop := Claim7.holds Tryz.pinned (.plain (OpenSpec.ofChange arraysKeepsSpec)) arraysKeepsCard

/-- THE TIED CARD OF 'arbiterlaw15.DisplayTypes'. -/
def displayTypesCard : Claim7 := { stood := { row := displayTypesRow, standIns := [], harness := (true, "98c3de2ea6be08adb922fdf9710e8dab3a8bb0c0d92a3f6894528604714f89b6"), looks := false }, kinds := [], alts := [], laidByText := true, laidKinds := [.data, .pinned], laidTests := true, laidLooks := .later }
def DisplayTypesCardSaid : Prop := Claim7.holds Tryz.pinned (.plain (OpenSpec.ofChange displayTypesSpec)) displayTypesCard

/-- THE TIED CARD OF 'arbiterlaw15.DisplayKeeps'. -/
def displayKeepsCard : Claim7 := { stood := { row := displayKeepsRow, standIns := [], harness := (true, "98c3de2ea6be08adb922fdf9710e8dab3a8bb0c0d92a3f6894528604714f89b6"), looks := false }, kinds := [], alts := [], laidByText := true, laidKinds := [.data, .pinned], laidTests := true, laidLooks := .later }
def DisplayKeepsCardSaid : Prop := Claim7.holds Tryz.pinned (.plain (OpenSpec.ofChange displayKeepsSpec)) displayKeepsCard

/-- THE SECOND FORM's CARD OF 'arbiterlaw08.AccessClasses'. -/
def accessClassesUptoCard : Claim7 := { stood := { row := accessClassesUptoRow, standIns := [], harness := (true, "98c3de2ea6be08adb922fdf9710e8dab3a8bb0c0d92a3f6894528604714f89b6"), looks := false }, kinds := [], alts := [], laidByText := true, laidKinds := [.data, .pinned], laidTests := true, laidLooks := .later }
def AccessClassesUptoCardSaid : Prop := Claim7.holds Tryz.pinned (.plain (OpenSpec.upto accessClassesSpec)) accessClassesUptoCard

/-- THE SECOND FORM's CARD OF 'arbiterlaw08.AccessMethods'. -/
def accessMethodsUptoCard : Claim7 := { stood := { row := accessMethodsUptoRow, standIns := [], harness := (true, "98c3de2ea6be08adb922fdf9710e8dab3a8bb0c0d92a3f6894528604714f89b6"), looks := false }, kinds := [], alts := [], laidByText := true, laidKinds := [.data, .pinned], laidTests := true, laidLooks := .later }
def AccessMethodsUptoCardSaid : Prop := Claim7.holds Tryz.pinned (.plain (OpenSpec.upto accessMethodsSpec)) accessMethodsUptoCard

/-- THE SECOND FORM's CARD OF 'arbiterlaw15.DisplayTests'. -/
def displayTestsUptoCard : Claim7 := { stood := { row := displayTestsUptoRow, standIns := [], harness := (true, "98c3de2ea6be08adb922fdf9710e8dab3a8bb0c0d92a3f6894528604714f89b6"), looks := false }, kinds := [], alts := [], laidByText := true, laidKinds := [.data, .pinned], laidTests := true, laidLooks := .later }
def DisplayTestsUptoCardSaid : Prop := Claim7.holds Tryz.pinned (.plain (OpenSpec.upto displayTestsSpec)) displayTestsUptoCard

/-- THE SECOND FORM's CARD OF 'arbiterlaw15.DisplayBuilds'. -/
def displayBuildsUptoCard : Claim7 := { stood := { row := displayBuildsUptoRow, standIns := [], harness := (true, "98c3de2ea6be08adb922fdf9710e8dab3a8bb0c0d92a3f6894528604714f89b6"), looks := false }, kinds := [], alts := [], laidByText := true, laidKinds := [.data, .pinned], laidTests := true, laidLooks := .later }
def DisplayBuildsUptoCardSaid : Prop := Claim7.holds Tryz.pinned (.plain (OpenSpec.upto displayBuildsSpec)) displayBuildsUptoCard

/-- THE SECOND FORM's CARD OF 'arbiterlaw07.ArraysPlays'. -/
def arraysPlaysUptoCard : Claim7 := { stood := { row := arraysPlaysUptoRow, standIns := [], harness := (true, "98c3de2ea6be08adb922fdf9710e8dab3a8bb0c0d92a3f6894528604714f89b6"), looks := false }, kinds := [], alts := [], laidByText := true, laidKinds := [.data, .pinned], laidTests := true, laidLooks := .later }
def ArraysPlaysUptoCardSaid : Prop := Claim7.holds Tryz.pinned (.plain (OpenSpec.upto arraysPlaysSpec)) arraysPlaysUptoCard

/-- THE SECOND FORM's CARD OF 'arbiterlaw07.ArraysKeeps'. -/
def arraysKeepsUptoCard : Claim7 := { stood := { row := arraysKeepsUptoRow, standIns := [], harness := (true, "98c3de2ea6be08adb922fdf9710e8dab3a8bb0c0d92a3f6894528604714f89b6"), looks := false }, kinds := [], alts := [], laidByText := true, laidKinds := [.data, .pinned], laidTests := true, laidLooks := .later }
def ArraysKeepsUptoCardSaid : Prop := Claim7.holds Tryz.pinned (.plain (OpenSpec.upto arraysKeepsSpec)) arraysKeepsUptoCard

/-- THE SECOND FORM's CARD OF 'arbiterlaw15.DisplayTypes'. -/
def displayTypesUptoCard : Claim7 := { stood := { row := displayTypesUptoRow, standIns := [], harness := (true, "98c3de2ea6be08adb922fdf9710e8dab3a8bb0c0d92a3f6894528604714f89b6"), looks := false }, kinds := [], alts := [], laidByText := true, laidKinds := [.data, .pinned], laidTests := true, laidLooks := .later }
def DisplayTypesUptoCardSaid : Prop := Claim7.holds Tryz.pinned (.plain (OpenSpec.upto displayTypesSpec)) displayTypesUptoCard

/-- THE SECOND FORM's CARD OF 'arbiterlaw15.DisplayKeeps'. -/
def displayKeepsUptoCard : Claim7 := { stood := { row := displayKeepsUptoRow, standIns := [], harness := (true, "98c3de2ea6be08adb922fdf9710e8dab3a8bb0c0d92a3f6894528604714f89b6"), looks := false }, kinds := [], alts := [], laidByText := true, laidKinds := [.data, .pinned], laidTests := true, laidLooks := .later }
def DisplayKeepsUptoCardSaid : Prop := Claim7.holds Tryz.pinned (.plain (OpenSpec.upto displayKeepsSpec)) displayKeepsUptoCard
end Rows
end Go.Proofs.YtaipkdglhfhhiaaGreatDoor
