/-
  DERIVED. GIVEN WITH THE SEED: THE CARDS: each row of YtmlifggklaeieaaDoorRows.lean that lists a variable, with what it lists TIED to the program's text (the seventh form; the later family's looks); each row that meets fmt, with fmt's text TOLD by the authors' own Lean function (tested against real Go, not proved from fmt's source: count such statements apart). THE CARD IS WHAT COUNTS. Prove the row's statement (the work); the ties are given (YtmlifggklaeieaaDoorTie.lean); close each card by the builder's one call (the guide's Derived/Test/ToyasCard.lean, 'card_holds'). Laid BY PROGRAM, IN A SANDBOX (cutbox-door.mjs). By AI agents, Wed Nov 11 2026. No macro, syntax, notation, axiom, sorry.
-/
import Derived.Test.YtmlifggklaeieaaDoorRows
import GoSem.ClaimSeven
namespace Go.Proofs.YtmlifggklaeieaaDoor
namespace Rows

/-- THE TIED CARD OF 'arbiterlaw08.AccessNil'. -/
def accessNilCard : Claim7 := { stood := { row := accessNilRow, standIns := [], harness := (true, "d694b07ad7344e7d0f7619dd0d51f485671f737c5fa5dc180dcad2476932af35"), looks := false }, kinds := [], alts := [], laidByText := true, laidKinds := [.data, .pinned], laidTests := true, laidLooks := .later }
def AccessNilCardSaid : Prop := Claim7.holds Tryd.pinned (.plain (OpenSpec.ofChange accessNilSpec)) accessNilCard

/-- THE TIED CARD OF 'arbiterlaw07.ArraysOrder'. -/
def arraysOrderCard : Claim7 := { stood := { row := arraysOrderRow, standIns := [], harness := (true, "d694b07ad7344e7d0f7619dd0d51f485671f737c5fa5dc180dcad2476932af35"), looks := false }, kinds := [], alts := [], laidByText := true, laidKinds := [.data, .pinned], laidTests := true, laidLooks := .later }
def ArraysOrderCardSaid : Prop := Claim7.holds Tryd.pinned (.plain (OpenSpec.ofChange arraysOrderSpec)) arraysOrderCard

/-- THE TIED CARD OF 'arbiterlaw08.AccessOpen'. -/
def accessOpenCard : Claim7 := { stood := { row := accessOpenRow, standIns := [], harness := (true, "d694b07ad7344e7d0f7619dd0d51f485671f737c5fa5dc180dcad2476932af35"), looks := false }, kinds := [], alts := [], laidByText := true, laidKinds := [.data, .pinned], laidTests := true, laidLooks := .later }
def AccessOpenCardSaid : Prop := Claim7.holds Tryd.pinned (.plain (OpenSpec.ofChange accessOpenSpec)) accessOpenCard

/-- THE TIED CARD OF 'arbiterlaw08.AccessOwn'. -/
def accessOwnCard : Claim7 := { stood := { row := accessOwnRow, standIns := [], harness := (true, "d694b07ad7344e7d0f7619dd0d51f485671f737c5fa5dc180dcad2476932af35"), looks := false }, kinds := [], alts := [], laidByText := true, laidKinds := [.data, .pinned], laidTests := true, laidLooks := .later }
def AccessOwnCardSaid : Prop := Claim7.holds Tryd.pinned (.plain (OpenSpec.ofChange accessOwnSpec)) accessOwnCard

/-- THE TIED CARD OF 'arbiterlaw07.ArraysSteps'. -/
def arraysStepsCard : Claim7 := { stood := { row := arraysStepsRow, standIns := [], harness := (true, "d694b07ad7344e7d0f7619dd0d51f485671f737c5fa5dc180dcad2476932af35"), looks := false }, kinds := [], alts := [], laidByText := true, laidKinds := [.data, .pinned], laidTests := true, laidLooks := .later }
def ArraysStepsCardSaid : Prop := Claim7.holds Tryd.pinned (.plain (OpenSpec.ofChange arraysStepsSpec)) arraysStepsCard

/-- THE SECOND FORM's CARD OF 'arbiterlaw08.AccessNil'. -/
def accessNilUptoCard : Claim7 := { stood := { row := accessNilUptoRow, standIns := [], harness := (true, "d694b07ad7344e7d0f7619dd0d51f485671f737c5fa5dc180dcad2476932af35"), looks := false }, kinds := [], alts := [], laidByText := true, laidKinds := [.data, .pinned], laidTests := true, laidLooks := .later }
def AccessNilUptoCardSaid : Prop := Claim7.holds Tryd.pinned (.plain (OpenSpec.upto accessNilSpec)) accessNilUptoCard

/-- THE SECOND FORM's CARD OF 'arbiterlaw07.ArraysOrder'. -/
def arraysOrderUptoCard : Claim7 := { stood := { row := arraysOrderUptoRow, standIns := [], harness := (true, "d694b07ad7344e7d0f7619dd0d51f485671f737c5fa5dc180dcad2476932af35"), looks := false }, kinds := [], alts := [], laidByText := true, laidKinds := [.data, .pinned], laidTests := true, laidLooks := .later }
def ArraysOrderUptoCardSaid : Prop := Claim7.holds Tryd.pinned (.plain (OpenSpec.upto arraysOrderSpec)) arraysOrderUptoCard

/-- THE SECOND FORM's CARD OF 'arbiterlaw08.AccessOpen'. -/
def accessOpenUptoCard : Claim7 := { stood := { row := accessOpenUptoRow, standIns := [], harness := (true, "d694b07ad7344e7d0f7619dd0d51f485671f737c5fa5dc180dcad2476932af35"), looks := false }, kinds := [], alts := [], laidByText := true, laidKinds := [.data, .pinned], laidTests := true, laidLooks := .later }
def AccessOpenUptoCardSaid : Prop := Claim7.holds Tryd.pinned (.plain (OpenSpec.upto accessOpenSpec)) accessOpenUptoCard

/-- THE SECOND FORM's CARD OF 'arbiterlaw08.AccessOwn'. -/
def accessOwnUptoCard : Claim7 := { stood := { row := accessOwnUptoRow, standIns := [], harness := (true, "d694b07ad7344e7d0f7619dd0d51f485671f737c5fa5dc180dcad2476932af35"), looks := false }, kinds := [], alts := [], laidByText := true, laidKinds := [.data, .pinned], laidTests := true, laidLooks := .later }
def AccessOwnUptoCardSaid : Prop := Claim7.holds Tryd.pinned (.plain (OpenSpec.upto accessOwnSpec)) accessOwnUptoCard

/-- THE SECOND FORM's CARD OF 'arbiterlaw07.ArraysSteps'. -/
def arraysStepsUptoCard : Claim7 := { stood := { row := arraysStepsUptoRow, standIns := [], harness := (true, "d694b07ad7344e7d0f7619dd0d51f485671f737c5fa5dc180dcad2476932af35"), looks := false }, kinds := [], alts := [], laidByText := true, laidKinds := [.data, .pinned], laidTests := true, laidLooks := .later }
def ArraysStepsUptoCardSaid : Prop := Claim7.holds Tryd.pinned (.plain (OpenSpec.upto arraysStepsSpec)) arraysStepsUptoCard
end Rows
end Go.Proofs.YtmlifggklaeieaaDoor
