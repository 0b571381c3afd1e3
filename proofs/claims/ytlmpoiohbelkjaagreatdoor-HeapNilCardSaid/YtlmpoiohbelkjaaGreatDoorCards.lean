/-
  DERIVED. GIVEN WITH THE SEED: THE CARDS: each row of YtlmpoiohbelkjaaGreatDoorRows.lean that lists a variable, with what it lists TIED to the program's text (the seventh form; the later family's looks); each row that meets fmt, with fmt's text TOLD by the authors' own Lean function (tested against real Go, not proved from fmt's source: count such statements apart). THE CARD IS WHAT COUNTS. Prove the row's statement (the work); the ties are given (YtlmpoiohbelkjaaGreatDoorTie.lean); close each card by the builder's one call (the guide's Derived/Test/ToyasCard.lean, 'card_holds'). Laid BY PROGRAM, IN A SANDBOX (cutbox-door.mjs). By AI agents, Wed Nov 11 2026. No macro, syntax, notation, axiom, sorry.
-/
import Derived.Test.YtlmpoiohbelkjaaGreatDoorRows
import GoSem.ClaimSeven
namespace Go.Proofs.YtlmpoiohbelkjaaGreatDoor
namespace Rows

/-- THE TIED CARD OF 'arbiterlaw20.HeapNil'. -/
def heapNilCard : Claim7 := { stood := { row := heapNilRow, standIns := [], harness := (true, "bb3f9304e8d4cc376468d9c48842df639a6d5fb4c2d32c69aad63c98852a05f6"), looks := false }, kinds := [], alts := [], laidByText := true, laidKinds := [.data, .pinned], laidTests := true, laidLooks := .later }
def HeapNilCardSaid : Prop := Claim7.holds Tryz.pinned (.plain (OpenSpec.ofChange heapNilSpec)) heapNilCard

/-- THE SECOND FORM's CARD OF 'arbiterlaw20.HeapNil'. -/
def heapNilUptoCard : Claim7 := { stood := { row := heapNilUptoRow, standIns := [], harness := (true, "bb3f9304e8d4cc376468d9c48842df639a6d5fb4c2d32c69aad63c98852a05f6"), looks := false }, kinds := [], alts := [], laidByText := true, laidKinds := [.data, .pinned], laidTests := true, laidLooks := .later }
def HeapNilUptoCardSaid : Prop := Claim7.holds Tryz.pinned (.plain (OpenSpec.upto heapNilSpec)) heapNilUptoCard
end Rows
end Go.Proofs.YtlmpoiohbelkjaaGreatDoor
