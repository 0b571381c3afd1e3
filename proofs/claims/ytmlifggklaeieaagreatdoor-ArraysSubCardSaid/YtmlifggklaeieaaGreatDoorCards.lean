/-
  DERIVED. GIVEN WITH THE SEED: THE CARDS: each row of YtmlifggklaeieaaGreatDoorRows.lean that lists a variable, with what it lists TIED to the program's text (the seventh form; the later family's looks); each row that meets fmt, with fmt's text TOLD by the authors' own Lean function (tested against real Go, not proved from fmt's source: count such statements apart). THE CARD IS WHAT COUNTS. Prove the row's statement (the work); the ties are given (YtmlifggklaeieaaGreatDoorTie.lean); close each card by the builder's one call (the guide's Derived/Test/ToyasCard.lean, 'card_holds'). Laid BY PROGRAM, IN A SANDBOX (cutbox-door.mjs). By AI agents, Wed Nov 11 2026. No macro, syntax, notation, axiom, sorry.
-/
import Derived.Test.YtmlifggklaeieaaGreatDoorRows
import GoSem.ClaimSeven
namespace Go.Proofs.YtmlifggklaeieaaGreatDoor
namespace Rows

/-- THE TIED CARD OF 'arbiterlaw07.ArraysSub'. -/
def arraysSubCard : Claim7 := { stood := { row := arraysSubRow, standIns := [], harness := (true, "43da1542bd14cd7606accf383f4399c20dcc2a717a30166ef9db9b348f7bc119"), looks := false }, kinds := [], alts := [], laidByText := true, laidKinds := [.data, .pinned], laidTests := true, laidLooks := .later }
def ArraysSubCardSaid : Prop := Claim7.holds Tryz.pinned (.plain (OpenSpec.ofChange arraysSubSpec)) arraysSubCard

/-- THE TIED CARD OF 'arbiterlaw08.AccessClasses'. -/
def accessClassesCard : Claim7 := { stood := { row := accessClassesRow, standIns := [], harness := (true, "43da1542bd14cd7606accf383f4399c20dcc2a717a30166ef9db9b348f7bc119"), looks := false }, kinds := [], alts := [], laidByText := true, laidKinds := [.data, .pinned], laidTests := true, laidLooks := .later }
def AccessClassesCardSaid : Prop := Claim7.holds Tryz.pinned (.plain (OpenSpec.ofChange accessClassesSpec)) accessClassesCard

/-- THE TIED CARD OF 'arbiterlaw08.AccessMethods'. -/
def accessMethodsCard : Claim7 := { stood := { row := accessMethodsRow, standIns := [], harness := (true, "43da1542bd14cd7606accf383f4399c20dcc2a717a30166ef9db9b348f7bc119"), looks := false }, kinds := [], alts := [], laidByText := true, laidKinds := [.data, .pinned], laidTests := true, laidLooks := .later }
def AccessMethodsCardSaid : Prop := Claim7.holds Tryz.pinned (.plain (OpenSpec.ofChange accessMethodsSpec)) accessMethodsCard

/-- THE TIED CARD OF 'arbiterlaw07.ArraysPlays'. -/
def arraysPlaysCard : Claim7 := { stood := { row := arraysPlaysRow, standIns := [], harness := (true, "43da1542bd14cd7606accf383f4399c20dcc2a717a30166ef9db9b348f7bc119"), looks := false }, kinds := [], alts := [], laidByText := true, laidKinds := [.data, .pinned], laidTests := true, laidLooks := .later }
def ArraysPlaysCardSaid : Prop := Claim7.holds Tryz.pinned (.plain (OpenSpec.ofChange arraysPlaysSpec)) arraysPlaysCard

/-- THE TIED CARD OF 'arbiterlaw07.ArraysKeeps'. -/
def arraysKeepsCard : Claim7 := { stood := { row := arraysKeepsRow, standIns := [], harness := (true, "43da1542bd14cd7606accf383f4399c20dcc2a717a30166ef9db9b348f7bc119"), looks := false }, kinds := [], alts := [], laidByText := true, laidKinds := [.data, .pinned], laidTests := true, laidLooks := .later }
def ArraysKeepsCardSaid : Prop := Claim7.holds Tryz.pinned (.plain (OpenSpec.ofChange arraysKeepsSpec)) arraysKeepsCard

/-- THE SECOND FORM's CARD OF 'arbiterlaw07.ArraysSub'. -/
def arraysSubUptoCard : Claim7 := { stood := { row := arraysSubUptoRow, standIns := [], harness := (true, "43da1542bd14cd7606accf383f4399c20dcc2a717a30166ef9db9b348f7bc119"), looks := false }, kinds := [], alts := [], laidByText := true, laidKinds := [.data, .pinned], laidTests := true, laidLooks := .later }
def ArraysSubUptoCardSaid : Prop := Claim7.holds Tryz.pinned (.plain (OpenSpec.upto arraysSubSpec)) arraysSubUptoCard

/-- THE SECOND FORM's CARD OF 'arbiterlaw08.AccessClasses'. -/
def accessClassesUptoCard : Claim7 := { stood := { row := accessClassesUptoRow, standIns := [], harness := (true, "43da1542bd14cd7606accf383f4399c20dcc2a717a30166ef9db9b348f7bc119"), looks := false }, kinds := [], alts := [], laidByText := true, laidKinds := [.data, .pinned], laidTests := true, laidLooks := .later }
def AccessClassesUptoCardSaid : Prop := Claim7.holds Tryz.pinned (.plain (OpenSpec.upto accessClassesSpec)) accessClassesUptoCard

/-- THE SECOND FORM's CARD OF 'arbiterlaw08.AccessMethods'. -/
def accessMethodsUptoCard : Claim7 := { stood := { row := accessMethodsUptoRow, standIns := [], harness := (true, "43da1542bd14cd7606accf383f4399c20dcc2a717a30166ef9db9b348f7bc119"), looks := false }, kinds := [], alts := [], laidByText := true, laidKinds := [.data, .pinned], laidTests := true, laidLooks := .later }
def AccessMethodsUptoCardSaid : Prop := Claim7.holds Tryz.pinned (.plain (OpenSpec.upto accessMethodsSpec)) accessMethodsUptoCard

/-- THE SECOND FORM's CARD OF 'arbiterlaw07.ArraysPlays'. -/
def arraysPlaysUptoCard : Claim7 := { stood := { row := arraysPlaysUptoRow, standIns := [], harness := (true, "43da1542bd14cd7606accf383f4399c20dcc2a717a30166ef9db9b348f7bc119"), looks := false }, kinds := [], alts := [], laidByText := true, laidKinds := [.data, .pinned], laidTests := true, laidLooks := .later }
def ArraysPlaysUptoCardSaid : Prop := Claim7.holds Tryz.pinned (.plain (OpenSpec.upto arraysPlaysSpec)) arraysPlaysUptoCard

/-- THE SECOND FORM's CARD OF 'arbiterlaw07.ArraysKeeps'. -/
def arraysKeepsUptoCard : Claim7 := { stood := { row := arraysKeepsUptoRow, standIns := [], harness := (true, "43da1542bd14cd7606accf383f4399c20dcc2a717a30166ef9db9b348f7bc119"), looks := false }, kinds := [], alts := [], laidByText := true, laidKinds := [.data, .pinned], laidTests := true, laidLooks := .later }
def ArraysKeepsUptoCardSaid : Prop := Claim7.holds Tryz.pinned (.plain (OpenSpec.upto arraysKeepsSpec)) arraysKeepsUptoCard
end Rows
end Go.Proofs.YtmlifggklaeieaaGreatDoor
