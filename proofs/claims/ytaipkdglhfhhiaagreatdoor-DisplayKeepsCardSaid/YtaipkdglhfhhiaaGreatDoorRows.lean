/-
  NARROWER THAN 'FOR EVERY INPUT', by the rows' own cells (each row's printed sentence says how): AccessClasses: laid · AccessMethods: laid · DisplayTests: laid · DisplayBuilds: laid · ArraysPlays: laid · ArraysKeeps: laid · DisplayTypes: laid · DisplayKeeps: laid.
  DERIVED. THE GIVEN ROWS OF THIS SEAT. 8 by the template 'for every input the law returns true; each argument reads behind the call as it read before'; 0 by the template 'total and deterministic' (their statements: YtaipkdglhfhhiaaGreatDoorTotals.lean).
  GIVEN WITH THE SEED: the statements are not yours to turn. If you find one false, say at which input.
  Laid BY PROGRAM, IN A SANDBOX (cutbox-rows.mjs): the forced cells as the released guide's own fill.sh prints them over the translation 515046e90c017e28… (all of the seat's roots in one cut). By AI agents, Wed Nov 11 2026. No macro, syntax, notation, axiom, sorry.
-/
import Derived.Test.YtaipkdglhfhhiaaGreatDoorChecked
import GoSem.PinnedTables
import GoSem.Claim
import GoSem.ClaimJoined
import GoSem.ClaimMapViews
import Derived.JoinedTies
import Derived.KernelRfl
namespace Go.Proofs.YtaipkdglhfhhiaaGreatDoor
/- THE CELL 'sum', in the pinned program and in every row, IS THE sha256 OF THE DUMP (.gsa) THAT YtaipkdglhfhhiaaGreatDoorProg.lean LOADS. Nothing in Lean hashes anything: it is a label: what it is worth is what the hold of that sum in a sandbox is worth. -/
noncomputable def Tryz.pinned : Pinned := { name := "ytaipkdglhfhhiaagreatdoor", sum := "515046e90c017e283d12a337425e76cb8787992b57aa0b9aab6b2185aa06134b", checked := Tryz.checked }
namespace Rows
def none {H : Type} : Left H := { results := [], args := [] }

/- WHAT THE LISTED PACKAGE-LEVEL VARIABLES READ AS WHEN THE CALL BEGINS. Each datum BY PROGRAM (the guide's laid-datum.mjs) off the statement by which the dump's own 'gosem.cut.vars' lays the variable. In a bare row this is a premise. The card (YtaipkdglhfhhiaaGreatDoorCards.lean) ties it to the program's text. -/
def laid_unicode_utf8_acceptRanges {H : Type} : DataW H := .agg [.agg [.lit (.int .u8 128), .lit (.int .u8 191)], .agg [.lit (.int .u8 160), .lit (.int .u8 191)], .agg [.lit (.int .u8 128), .lit (.int .u8 159)], .agg [.lit (.int .u8 144), .lit (.int .u8 191)], .agg [.lit (.int .u8 128), .lit (.int .u8 143)], .agg [.lit (.int .u8 0), .lit (.int .u8 0)], .agg [.lit (.int .u8 0), .lit (.int .u8 0)], .agg [.lit (.int .u8 0), .lit (.int .u8 0)], .agg [.lit (.int .u8 0), .lit (.int .u8 0)], .agg [.lit (.int .u8 0), .lit (.int .u8 0)], .agg [.lit (.int .u8 0), .lit (.int .u8 0)], .agg [.lit (.int .u8 0), .lit (.int .u8 0)], .agg [.lit (.int .u8 0), .lit (.int .u8 0)], .agg [.lit (.int .u8 0), .lit (.int .u8 0)], .agg [.lit (.int .u8 0), .lit (.int .u8 0)], .agg [.lit (.int .u8 0), .lit (.int .u8 0)]]
/-- One of Go's own tables, pinned by name: the form's constant. -/
def laid_unicode_utf8_first : DataW Unit := Go.Pinned.utf8First

/-- 'arbiterlaw08.AccessClasses': WHATEVER THE INPUT: true; the input reads as it did. -/
def accessClassesSpec : ChangeSpec := { name := "accessClasses", fn := fun _ => fun
  | [d1, d2, d3, d4] => { results := [.lit (.bool true)], args := [d1, d2, d3, d4] }
  | _ => none }
def accessClassesRow : OpenClaim := { program := "ytaipkdglhfhhiaagreatdoor", sum := "515046e90c017e283d12a337425e76cb8787992b57aa0b9aab6b2185aa06134b", func := "arbiter/arbiterlaw08.AccessClasses", spec := "accessClasses", inPlace := ["internal/bytealg.CountString", "internal/bytealg.IndexByteString", "internal/bytealg.IndexString"], unfollowed := true, recurses := true, named := ["unicode/utf8.first", "unicode/utf8.acceptRanges", "internal/bytealg.MaxLen"], apart := false, laid := [("unicode/utf8.acceptRanges", laid_unicode_utf8_acceptRanges), ("unicode/utf8.first", laid_unicode_utf8_first)] }
def AccessClassesSaid : Prop := accessClassesRow.holds Tryz.pinned (OpenSpec.ofChange accessClassesSpec)

/-- ITS FALSE NEIGHBOUR: 'it returns false'. Refute it at one input. -/
def accessClassesWrong : ChangeSpec := { name := "accessClasses", fn := fun _ => fun
  | [d1, d2, d3, d4] => { results := [.lit (.bool false)], args := [d1, d2, d3, d4] }
  | _ => none }
def AccessClassesWrongFalsely : Prop := accessClassesRow.holds Tryz.pinned (OpenSpec.ofChange accessClassesWrong)

/-- 'arbiterlaw08.AccessMethods': WHATEVER THE INPUT: true; the input reads as it did. -/
def accessMethodsSpec : ChangeSpec := { name := "accessMethods", fn := fun _ => fun
  | [d1, d2, d3, d4] => { results := [.lit (.bool true)], args := [d1, d2, d3, d4] }
  | _ => none }
def accessMethodsRow : OpenClaim := { program := "ytaipkdglhfhhiaagreatdoor", sum := "515046e90c017e283d12a337425e76cb8787992b57aa0b9aab6b2185aa06134b", func := "arbiter/arbiterlaw08.AccessMethods", spec := "accessMethods", inPlace := ["internal/bytealg.CountString", "internal/bytealg.IndexByteString", "internal/bytealg.IndexString"], unfollowed := true, recurses := true, named := ["unicode/utf8.first", "unicode/utf8.acceptRanges", "internal/bytealg.MaxLen"], apart := false, laid := [("unicode/utf8.acceptRanges", laid_unicode_utf8_acceptRanges), ("unicode/utf8.first", laid_unicode_utf8_first)] }
def AccessMethodsSaid : Prop := accessMethodsRow.holds Tryz.pinned (OpenSpec.ofChange accessMethodsSpec)

/-- ITS FALSE NEIGHBOUR: 'it returns false'. Refute it at one input. -/
def accessMethodsWrong : ChangeSpec := { name := "accessMethods", fn := fun _ => fun
  | [d1, d2, d3, d4] => { results := [.lit (.bool false)], args := [d1, d2, d3, d4] }
  | _ => none }
def AccessMethodsWrongFalsely : Prop := accessMethodsRow.holds Tryz.pinned (OpenSpec.ofChange accessMethodsWrong)

/-- 'arbiterlaw15.DisplayTests': WHATEVER THE INPUT: true; the input reads as it did. -/
def displayTestsSpec : ChangeSpec := { name := "displayTests", fn := fun _ => fun
  | [d1, d2, d3] => { results := [.lit (.bool true)], args := [d1, d2, d3] }
  | _ => none }
def displayTestsRow : OpenClaim := { program := "ytaipkdglhfhhiaagreatdoor", sum := "515046e90c017e283d12a337425e76cb8787992b57aa0b9aab6b2185aa06134b", func := "arbiter/arbiterlaw15.DisplayTests", spec := "displayTests", inPlace := ["internal/bytealg.CountString", "internal/bytealg.IndexByteString", "internal/bytealg.IndexString"], unfollowed := true, recurses := true, named := ["unicode/utf8.first", "unicode/utf8.acceptRanges", "internal/bytealg.MaxLen"], apart := false, laid := [("unicode/utf8.acceptRanges", laid_unicode_utf8_acceptRanges), ("unicode/utf8.first", laid_unicode_utf8_first)] }
def DisplayTestsSaid : Prop := displayTestsRow.holds Tryz.pinned (OpenSpec.ofChange displayTestsSpec)

/-- ITS FALSE NEIGHBOUR: 'it returns false'. Refute it at one input. -/
def displayTestsWrong : ChangeSpec := { name := "displayTests", fn := fun _ => fun
  | [d1, d2, d3] => { results := [.lit (.bool false)], args := [d1, d2, d3] }
  | _ => none }
def DisplayTestsWrongFalsely : Prop := displayTestsRow.holds Tryz.pinned (OpenSpec.ofChange displayTestsWrong)

/-- 'arbiterlaw15.DisplayBuilds': WHATEVER THE INPUT: true; the input reads as it did. -/
def displayBuildsSpec : ChangeSpec := { name := "displayBuilds", fn := fun _ => fun
  | [d1, d2] => { results := [.lit (.bool true)], args := [d1, d2] }
  | _ => none }
def displayBuildsRow : OpenClaim := { program := "ytaipkdglhfhhiaagreatdoor", sum := "515046e90c017e283d12a337425e76cb8787992b57aa0b9aab6b2185aa06134b", func := "arbiter/arbiterlaw15.DisplayBuilds", spec := "displayBuilds", inPlace := ["internal/bytealg.CountString", "internal/bytealg.IndexByteString", "internal/bytealg.IndexString"], unfollowed := true, recurses := true, named := ["unicode/utf8.first", "unicode/utf8.acceptRanges", "internal/bytealg.MaxLen"], apart := false, laid := [("unicode/utf8.acceptRanges", laid_unicode_utf8_acceptRanges), ("unicode/utf8.first", laid_unicode_utf8_first)] }
def DisplayBuildsSaid : Prop := displayBuildsRow.holds Tryz.pinned (OpenSpec.ofChange displayBuildsSpec)

/-- ITS FALSE NEIGHBOUR: 'it returns false'. Refute it at one input. -/
def displayBuildsWrong : ChangeSpec := { name := "displayBuilds", fn := fun _ => fun
  | [d1, d2] => { results := [.lit (.bool false)], args := [d1, d2] }
  | _ => none }
def DisplayBuildsWrongFalsely : Prop := displayBuildsRow.holds Tryz.pinned (OpenSpec.ofChange displayBuildsWrong)

/-- 'arbiterlaw07.ArraysPlays': WHATEVER THE INPUT: true; the input reads as it did. -/
def arraysPlaysSpec : ChangeSpec := { name := "arraysPlays", fn := fun _ => fun
  | [d1, d2, d3] => { results := [.lit (.bool true)], args := [d1, d2, d3] }
  | _ => none }
def arraysPlaysRow : OpenClaim := { program := "ytaipkdglhfhhiaagreatdoor", sum := "515046e90c017e283d12a337425e76cb8787992b57aa0b9aab6b2185aa06134b", func := "arbiter/arbiterlaw07.ArraysPlays", spec := "arraysPlays", inPlace := ["internal/bytealg.CountString", "internal/bytealg.IndexByteString", "internal/bytealg.IndexString"], unfollowed := true, recurses := true, named := ["unicode/utf8.first", "unicode/utf8.acceptRanges", "internal/bytealg.MaxLen"], apart := false, laid := [("unicode/utf8.acceptRanges", laid_unicode_utf8_acceptRanges), ("unicode/utf8.first", laid_unicode_utf8_first)] }
def ArraysPlaysSaid : Prop := arraysPlaysRow.holds Tryz.pinned (OpenSpec.ofChange arraysPlaysSpec)

/-- ITS FALSE NEIGHBOUR: 'it returns false'. Refute it at one input. -/
def arraysPlaysWrong : ChangeSpec := { name := "arraysPlays", fn := fun _ => fun
  | [d1, d2, d3] => { results := [.lit (.bool false)], args := [d1, d2, d3] }
  | _ => none }
def ArraysPlaysWrongFalsely : Prop := arraysPlaysRow.holds Tryz.pinned (OpenSpec.ofChange arraysPlaysWrong)

/-- 'arbiterlaw07.ArraysKeeps': WHATEVER THE INPUT: true; the input reads as it did. -/
def arraysKeepsSpec : ChangeSpec := { name := "arraysKeeps", fn := fun _ => fun
  | [d1, d2] => { results := [.lit (.bool true)], args := [d1, d2] }
  | _ => none }
def arraysKeepsRow : OpenClaim := { program := "ytaipkdglhfhhiaagreatdoor", sum := "515046e90c017e283d12a337425e76cb8787992b57aa0b9aab6b2185aa06134b", func := "arbiter/arbiterlaw07.ArraysKeeps", spec := "arraysKeeps", inPlace := ["internal/bytealg.CountString", "internal/bytealg.IndexByteString", "internal/bytealg.IndexString"], unfollowed := true, recurses := true, named := ["unicode/utf8.first", "unicode/utf8.acceptRanges", "internal/bytealg.MaxLen"], apart := false, laid := [("unicode/utf8.acceptRanges", laid_unicode_utf8_acceptRanges), ("unicode/utf8.first", laid_unicode_utf8_first)] }
def ArraysKeepsSaid : Prop := arraysKeepsRow.holds Tryz.pinned (OpenSpec.ofChange arraysKeepsSpec)

/-- ITS FALSE NEIGHBOUR: 'it returns false'. Refute it at one input. -/
def arraysKeepsWrong : ChangeSpec := { name := "arraysKeeps", fn := fun _ => fun
  | [d1, d2] => { results := [.lit (.bool false)], args := [d1, d2] }
  | _ => none }
def ArraysKeepsWrongFalsely : Prop := arraysKeepsRow.holds Tryz.pinned (OpenSpec.ofChange arraysKeepsWrong)

/-- 'arbiterlaw15.DisplayTypes': WHATEVER THE INPUT: true; the input reads as it did. -/
def displayTypesSpec : ChangeSpec := { name := "displayTypes", fn := fun _ => fun
  | [d1, d2, d3] => { results := [.lit (.bool true)], args := [d1, d2, d3] }
  | _ => none }
def displayTypesRow : OpenClaim := { program := "ytaipkdglhfhhiaagreatdoor", sum := "515046e90c017e283d12a337425e76cb8787992b57aa0b9aab6b2185aa06134b", func := "arbiter/arbiterlaw15.DisplayTypes", spec := "displayTypes", inPlace := ["internal/bytealg.CountString", "internal/bytealg.IndexByteString", "internal/bytealg.IndexString"], unfollowed := true, recurses := true, named := ["unicode/utf8.first", "unicode/utf8.acceptRanges", "internal/bytealg.MaxLen"], apart := false, laid := [("unicode/utf8.acceptRanges", laid_unicode_utf8_acceptRanges), ("unicode/utf8.first", laid_unicode_utf8_first)] }
def DisplayTypesSaid : Prop := displayTypesRow.holds Tryz.pinned (OpenSpec.ofChange displayTypesSpec)

/-- ITS FALSE NEIGHBOUR: 'it returns false'. Refute it at one input. -/
def displayTypesWrong : ChangeSpec := { name := "displayTypes", fn := fun _ => fun
  | [d1, d2, d3] => { results := [.lit (.bool false)], args := [d1, d2, d3] }
  | _ => none }
def DisplayTypesWrongFalsely : Prop := displayTypesRow.holds Tryz.pinned (OpenSpec.ofChange displayTypesWrong)

/-- 'arbiterlaw15.DisplayKeeps': WHATEVER THE INPUT: true; the input reads as it did. -/
def displayKeepsSpec : ChangeSpec := { name := "displayKeeps", fn := fun _ => fun
  | [d1, d2] => { results := [.lit (.bool true)], args := [d1, d2] }
  | _ => none }
def displayKeepsRow : OpenClaim := { program := "ytaipkdglhfhhiaagreatdoor", sum := "515046e90c017e283d12a337425e76cb8787992b57aa0b9aab6b2185aa06134b", func := "arbiter/arbiterlaw15.DisplayKeeps", spec := "displayKeeps", inPlace := ["internal/bytealg.CountString", "internal/bytealg.IndexByteString", "internal/bytealg.IndexString"], unfollowed := true, recurses := true, named := ["unicode/utf8.first", "unicode/utf8.acceptRanges", "internal/bytealg.MaxLen"], apart := false, laid := [("unicode/utf8.acceptRanges", laid_unicode_utf8_acceptRanges), ("unicode/utf8.first", laid_unicode_utf8_first)] }
def DisplayKeepsSaid : Prop := displayKeepsRow.holds Tryz.pinned (OpenSpec.ofChange displayKeepsSpec)

/-- ITS FALSE NEIGHBOUR: 'it returns false'. Refute it at one input. -/
def displayKeepsWrong : ChangeSpec := { name := "displayKeeps", fn := fun _ => fun
  | [d1, d2] => { results := [.lit (.bool false)], args := [d1, d2] }
  | _ => none }
def DisplayKeepsWrongFalsely : Prop := displayKeepsRow.holds Tryz.pinned (OpenSpec.ofChange displayKeepsWrong)

/- THE SECOND FORM. 'bulk': how many values and letters a reading holds, each counted each time it is reached (what is shared counts as often as it is met; a slice's spare places count too). A statement '..UptoSaid' is the law's where the arguments, and the package variables that the reading takes, are together of bulk at most 1048576: NARROWER than '..Said'. Prove '..Said' where nothing that the law and all that it calls make is longer than what came in: it says more and counts as full. Else prove '..UptoSaid'. A law counts once. -/
mutual
def uptoBulk {H : Type} : DataW H → Nat
  | .lit (.string bytes) => bytes.length + 1
  | .lit _ => 1
  | .nil => 1
  | .ptr d => uptoBulk d + 1
  | .slice elems spare => uptoBulkAll elems + uptoBulkAll spare + 1
  | .agg parts => uptoBulkAll parts + 1
  | .iface _ d => uptoBulk d + 1
  | .map entries => uptoBulkEntries entries + 1
  | .held _ => 1
def uptoBulkAll {H : Type} : List (DataW H) → Nat
  | [] => 0
  | d :: r => uptoBulk d + uptoBulkAll r
def uptoBulkEntries {H : Type} : List (Lit × DataW H) → Nat
  | [] => 0
  | x :: r => uptoBulkEntry x + uptoBulkEntries r
def uptoBulkEntry {H : Type} : Lit × DataW H → Nat
  | (.string bytes, d) => bytes.length + uptoBulk d + 1
  | (_, d) => uptoBulk d + 1
 end
def uptoSmall : (H : Type) → List (DataW H) → Bool := fun _ ds => decide (uptoBulkAll ds ≤ 1048576)
def OpenSpec.upto (s : _root_.Go.ChangeSpec) : _root_.Go.OpenSpec := { _root_.Go.OpenSpec.ofChange s with cond := some uptoSmall }

/-- 'arbiterlaw08.AccessClasses', WHERE WHAT IT READS IS OF BULK AT MOST 1048576: true; the input reads as it did. -/
def accessClassesUptoRow : OpenClaim := { program := "ytaipkdglhfhhiaagreatdoor", sum := "515046e90c017e283d12a337425e76cb8787992b57aa0b9aab6b2185aa06134b", func := "arbiter/arbiterlaw08.AccessClasses", spec := "accessClasses", inPlace := ["internal/bytealg.CountString", "internal/bytealg.IndexByteString", "internal/bytealg.IndexString"], unfollowed := true, recurses := true, named := ["unicode/utf8.first", "unicode/utf8.acceptRanges", "internal/bytealg.MaxLen"], apart := false, laid := [("unicode/utf8.acceptRanges", laid_unicode_utf8_acceptRanges), ("unicode/utf8.first", laid_unicode_utf8_first)], narrowed := true }
def AccessClassesUptoSaid : Prop := accessClassesUptoRow.holds Tryz.pinned (OpenSpec.upto accessClassesSpec)

/-- 'arbiterlaw08.AccessMethods', WHERE WHAT IT READS IS OF BULK AT MOST 1048576: true; the input reads as it did. -/
def accessMethodsUptoRow : OpenClaim := { program := "ytaipkdglhfhhiaagreatdoor", sum := "515046e90c017e283d12a337425e76cb8787992b57aa0b9aab6b2185aa06134b", func := "arbiter/arbiterlaw08.AccessMethods", spec := "accessMethods", inPlace := ["internal/bytealg.CountString", "internal/bytealg.IndexByteString", "internal/bytealg.IndexString"], unfollowed := true, recurses := true, named := ["unicode/utf8.first", "unicode/utf8.acceptRanges", "internal/bytealg.MaxLen"], apart := false, laid := [("unicode/utf8.acceptRanges", laid_unicode_utf8_acceptRanges), ("unicode/utf8.first", laid_unicode_utf8_first)], narrowed := true }
def AccessMethodsUptoSaid : Prop := accessMethodsUptoRow.holds Tryz.pinned (OpenSpec.upto accessMethodsSpec)

/-- 'arbiterlaw15.DisplayTests', WHERE WHAT IT READS IS OF BULK AT MOST 1048576: true; the input reads as it did. -/
def displayTestsUptoRow : OpenClaim := { program := "ytaipkdglhfhhiaagreatdoor", sum := "515046e90c017e283d12a337425e76cb8787992b57aa0b9aab6b2185aa06134b", func := "arbiter/arbiterlaw15.DisplayTests", spec := "displayTests", inPlace := ["internal/bytealg.CountString", "internal/bytealg.IndexByteString", "internal/bytealg.IndexString"], unfollowed := true, recurses := true, named := ["unicode/utf8.first", "unicode/utf8.acceptRanges", "internal/bytealg.MaxLen"], apart := false, laid := [("unicode/utf8.acceptRanges", laid_unicode_utf8_acceptRanges), ("unicode/utf8.first", laid_unicode_utf8_first)], narrowed := true }
def DisplayTestsUptoSaid : Prop := displayTestsUptoRow.holds Tryz.pinned (OpenSpec.upto displayTestsSpec)

/-- 'arbiterlaw15.DisplayBuilds', WHERE WHAT IT READS IS OF BULK AT MOST 1048576: true; the input reads as it did. -/
def displayBuildsUptoRow : OpenClaim := { program := "ytaipkdglhfhhiaagreatdoor", sum := "515046e90c017e283d12a337425e76cb8787992b57aa0b9aab6b2185aa06134b", func := "arbiter/arbiterlaw15.DisplayBuilds", spec := "displayBuilds", inPlace := ["internal/bytealg.CountString", "internal/bytealg.IndexByteString", "internal/bytealg.IndexString"], unfollowed := true, recurses := true, named := ["unicode/utf8.first", "unicode/utf8.acceptRanges", "internal/bytealg.MaxLen"], apart := false, laid := [("unicode/utf8.acceptRanges", laid_unicode_utf8_acceptRanges), ("unicode/utf8.first", laid_unicode_utf8_first)], narrowed := true }
def DisplayBuildsUptoSaid : Prop := displayBuildsUptoRow.holds Tryz.pinned (OpenSpec.upto displayBuildsSpec)

/-- 'arbiterlaw07.ArraysPlays', WHERE WHAT IT READS IS OF BULK AT MOST 1048576: true; the input reads as it did. -/
def arraysPlaysUptoRow : OpenClaim := { program := "ytaipkdglhfhhiaagreatdoor", sum := "515046e90c017e283d12a337425e76cb8787992b57aa0b9aab6b2185aa06134b", func := "arbiter/arbiterlaw07.ArraysPlays", spec := "arraysPlays", inPlace := ["internal/bytealg.CountString", "internal/bytealg.IndexByteString", "internal/bytealg.IndexString"], unfollowed := true, recurses := true, named := ["unicode/utf8.first", "unicode/utf8.acceptRanges", "internal/bytealg.MaxLen"], apart := false, laid := [("unicode/utf8.acceptRanges", laid_unicode_utf8_acceptRanges), ("unicode/utf8.first", laid_unicode_utf8_first)], narrowed := true }
def ArraysPlaysUptoSaid : Prop := arraysPlaysUptoRow.holds Tryz.pinned (OpenSpec.upto arraysPlaysSpec)

/-- 'arbiterlaw07.ArraysKeeps', WHERE WHAT IT READS IS OF BULK AT MOST 1048576: true; the input reads as it did. -/
def arraysKeepsUptoRow : OpenClaim := { program := "ytaipkdglhfhhiaagreatdoor", sum := "515046e90c017e283d12a337425e76cb8787992b57aa0b9aab6b2185aa06134b", func := "arbiter/arbiterlaw07.ArraysKeeps", spec := "arraysKeeps", inPlace := ["internal/bytealg.CountString", "internal/bytealg.IndexByteString", "internal/bytealg.IndexString"], unfollowed := true, recurses := true, named := ["unicode/utf8.first", "unicode/utf8.acceptRanges", "internal/bytealg.MaxLen"], apart := false, laid := [("unicode/utf8.acceptRanges", laid_unicode_utf8_acceptRanges), ("unicode/utf8.first", laid_unicode_utf8_first)], narrowed := true }
def ArraysKeepsUptoSaid : Prop := arraysKeepsUptoRow.holds Tryz.pinned (OpenSpec.upto arraysKeepsSpec)

/-- 'arbiterlaw15.DisplayTypes', WHERE WHAT IT READS IS OF BULK AT MOST 1048576: true; the input reads as it did. -/
def displayTypesUptoRow : OpenClaim := { program := "ytaipkdglhfhhiaagreatdoor", sum := "515046e90c017e283d12a337425e76cb8787992b57aa0b9aab6b2185aa06134b", func := "arbiter/arbiterlaw15.DisplayTypes", spec := "displayTypes", inPlace := ["internal/bytealg.CountString", "internal/bytealg.IndexByteString", "internal/bytealg.IndexString"], unfollowed := true, recurses := true, named := ["unicode/utf8.first", "unicode/utf8.acceptRanges", "internal/bytealg.MaxLen"], apart := false, laid := [("unicode/utf8.acceptRanges", laid_unicode_utf8_acceptRanges), ("unicode/utf8.first", laid_unicode_utf8_first)], narrowed := true }
def DisplayTypesUptoSaid : Prop := displayTypesUptoRow.holds Tryz.pinned (OpenSpec.upto displayTypesSpec)

/-- 'arbiterlaw15.DisplayKeeps', WHERE WHAT IT READS IS OF BULK AT MOST 1048576: true; the input reads as it did. -/
def displayKeepsUptoRow : OpenClaim := { program := "ytaipkdglhfhhiaagreatdoor", sum := "515046e90c017e283d12a337425e76cb8787992b57aa0b9aab6b2185aa06134b", func := "arbiter/arbiterlaw15.DisplayKeeps", spec := "displayKeeps", inPlace := ["internal/bytealg.CountString", "internal/bytealg.IndexByteString", "internal/bytealg.IndexString"], unfollowed := true, recurses := true, named := ["unicode/utf8.first", "unicode/utf8.acceptRanges", "internal/bytealg.MaxLen"], apart := false, laid := [("unicode/utf8.acceptRanges", laid_unicode_utf8_acceptRanges), ("unicode/utf8.first", laid_unicode_utf8_first)], narrowed := true }
def DisplayKeepsUptoSaid : Prop := displayKeepsUptoRow.holds Tryz.pinned (OpenSpec.upto displayKeepsSpec)

end Rows
end Go.Proofs.YtaipkdglhfhhiaaGreatDoor
