/-
  DERIVED. GIVEN WITH THE SEED: THE CARDS: each row of YtaipkdglhfhhiaaDoorRows.lean that lists a variable, with what it lists TIED to the program's text (the seventh form; the later family's looks); each row that meets fmt, with fmt's text TOLD by the authors' own Lean function (tested against real Go, not proved from fmt's source: count such statements apart). THE CARD IS WHAT COUNTS. Prove the row's statement (the work); the ties are given (YtaipkdglhfhhiaaDoorTie.lean); close each card by the builder's one call (the guide's Derived/Test/ToyasCard.lean, 'card_holds'). Laid BY PROGRAM, IN A SANDBOX (cutbox-door.mjs). By AI agents, Wed Nov 11 2026. No macro, syntax, notation, axiom, sorry.
-/
import Derived.Test.YtaipkdglhfhhiaaDoorRows
import GoSem.ClaimSeven
namespace Go.Proofs.YtaipkdglhfhhiaaDoor
namespace Rows

/-- THE TIED CARD OF 'arbitertop.WholeSubtypes'. -/
def wholeSubtypesCard : Claim7 := { stood := { row := wholeSubtypesRow, standIns := [], harness := (true, "62373944a20cbcef9faad0522580bac58b054c2884726977f114ea0af8250c93"), looks := false }, kinds := [], alts := [], laidByText := true, laidKinds := [.data, .pinned], laidTests := true, laidLooks := .later }
def WholeSubtypesCardSaid : Prop := Claim7.holds Tryd.pinned (.plain (OpenSpec.ofChange wholeSubtypesSpec)) wholeSubtypesCard

/-- THE TIED CARD OF 'arbiterlaw15.DisplayChain'. -/
def displayChainCard : Claim7 := { stood := { row := displayChainRow, standIns := [], harness := (true, "62373944a20cbcef9faad0522580bac58b054c2884726977f114ea0af8250c93"), looks := false }, kinds := [], alts := [], laidByText := true, laidKinds := [.data, .pinned], laidTests := true, laidLooks := .later }
def DisplayChainCardSaid : Prop := Claim7.holds Tryd.pinned (.plain (OpenSpec.ofChange displayChainSpec)) displayChainCard

/-- THE TIED CARD OF 'arbiterlaw15.DisplayRule'. -/
def displayRuleCard : Claim7 := { stood := { row := displayRuleRow, standIns := [], harness := (true, "62373944a20cbcef9faad0522580bac58b054c2884726977f114ea0af8250c93"), looks := false }, kinds := [], alts := [], laidByText := true, laidKinds := [.data, .pinned], laidTests := true, laidLooks := .later }
def DisplayRuleCardSaid : Prop := Claim7.holds Tryd.pinned (.plain (OpenSpec.ofChange displayRuleSpec)) displayRuleCard

/-- THE SECOND FORM's CARD OF 'arbitertop.WholeSubtypes'. -/
def wholeSubtypesUptoCard : Claim7 := { stood := { row := wholeSubtypesUptoRow, standIns := [], harness := (true, "62373944a20cbcef9faad0522580bac58b054c2884726977f114ea0af8250c93"), looks := false }, kinds := [], alts := [], laidByText := true, laidKinds := [.data, .pinned], laidTests := true, laidLooks := .later }
def WholeSubtypesUptoCardSaid : Prop := Claim7.holds Tryd.pinned (.plain (OpenSpec.upto wholeSubtypesSpec)) wholeSubtypesUptoCard

/-- THE SECOND FORM's CARD OF 'arbiterlaw15.DisplayChain'. -/
def displayChainUptoCard : Claim7 := { stood := { row := displayChainUptoRow, standIns := [], harness := (true, "62373944a20cbcef9faad0522580bac58b054c2884726977f114ea0af8250c93"), looks := false }, kinds := [], alts := [], laidByText := true, laidKinds := [.data, .pinned], laidTests := true, laidLooks := .later }
def DisplayChainUptoCardSaid : Prop := Claim7.holds Tryd.pinned (.plain (OpenSpec.upto displayChainSpec)) displayChainUptoCard

/-- THE SECOND FORM's CARD OF 'arbiterlaw15.DisplayRule'. -/
def displayRuleUptoCard : Claim7 := { stood := { row := displayRuleUptoRow, standIns := [], harness := (true, "62373944a20cbcef9faad0522580bac58b054c2884726977f114ea0af8250c93"), looks := false }, kinds := [], alts := [], laidByText := true, laidKinds := [.data, .pinned], laidTests := true, laidLooks := .later }
def DisplayRuleUptoCardSaid : Prop := Claim7.holds Tryd.pinned (.plain (OpenSpec.upto displayRuleSpec)) displayRuleUptoCard
end Rows
end Go.Proofs.YtaipkdglhfhhiaaDoor
