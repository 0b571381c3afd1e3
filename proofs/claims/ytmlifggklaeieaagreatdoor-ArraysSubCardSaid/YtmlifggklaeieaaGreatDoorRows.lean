/-
  NARROWER THAN 'FOR EVERY INPUT', by the rows' own cells (each row's printed sentence says how): ArraysSub: laid · AccessClasses: laid · AccessMethods: laid · ArraysPlays: laid · ArraysKeeps: laid.
  DERIVED. THE GIVEN ROWS OF THIS SEAT. 5 by the template 'for every input the law returns true; each argument reads behind the call as it read before'; 0 by the template 'total and deterministic' (their statements: YtmlifggklaeieaaGreatDoorTotals.lean).
  GIVEN WITH THE SEED: the statements are not yours to turn. If you find one false, say at which input.
  Laid BY PROGRAM, IN A SANDBOX (cutbox-rows.mjs): the forced cells as the released guide's own fill.sh prints them over the translation 813fd2027f3f9181… (all of the seat's roots in one cut). By AI agents, Wed Nov 11 2026. No macro, syntax, notation, axiom, sorry.
-/
import Derived.Test.YtmlifggklaeieaaGreatDoorChecked
import GoSem.PinnedTables
import GoSem.Claim
import GoSem.ClaimJoined
import GoSem.ClaimMapViews
import Derived.JoinedTies
import Derived.KernelRfl
namespace Go.Proofs.YtmlifggklaeieaaGreatDoor
/- THE CELL 'sum', in the pinned program and in every row, IS THE sha256 OF THE DUMP (.gsa) THAT YtmlifggklaeieaaGreatDoorProg.lean LOADS. Nothing in Lean hashes anything: it is a label: what it is worth is what the hold of that sum in a sandbox is worth. -/
noncomputable def Tryz.pinned : Pinned := { name := "ytmlifggklaeieaagreatdoor", sum := "813fd2027f3f9181e9a59998f0d14b6e0cd485420d20bbd899faf8c4565fe48b", checked := Tryz.checked }
namespace Rows
def none {H : Type} : Left H := { results := [], args := [] }

/- WHAT THE LISTED PACKAGE-LEVEL VARIABLES READ AS WHEN THE CALL BEGINS. Each datum BY PROGRAM (the guide's laid-datum.mjs) off the statement by which the dump's own 'gosem.cut.vars' lays the variable. In a bare row this is a premise. The card (YtmlifggklaeieaaGreatDoorCards.lean) ties it to the program's text. -/
def laid_unicode_utf8_acceptRanges {H : Type} : DataW H := .agg [.agg [.lit (.int .u8 128), .lit (.int .u8 191)], .agg [.lit (.int .u8 160), .lit (.int .u8 191)], .agg [.lit (.int .u8 128), .lit (.int .u8 159)], .agg [.lit (.int .u8 144), .lit (.int .u8 191)], .agg [.lit (.int .u8 128), .lit (.int .u8 143)], .agg [.lit (.int .u8 0), .lit (.int .u8 0)], .agg [.lit (.int .u8 0), .lit (.int .u8 0)], .agg [.lit (.int .u8 0), .lit (.int .u8 0)], .agg [.lit (.int .u8 0), .lit (.int .u8 0)], .agg [.lit (.int .u8 0), .lit (.int .u8 0)], .agg [.lit (.int .u8 0), .lit (.int .u8 0)], .agg [.lit (.int .u8 0), .lit (.int .u8 0)], .agg [.lit (.int .u8 0), .lit (.int .u8 0)], .agg [.lit (.int .u8 0), .lit (.int .u8 0)], .agg [.lit (.int .u8 0), .lit (.int .u8 0)], .agg [.lit (.int .u8 0), .lit (.int .u8 0)]]
/-- One of Go's own tables, pinned by name: the form's constant. -/
def laid_unicode_utf8_first : DataW Unit := Go.Pinned.utf8First

/-- 'arbiterlaw07.ArraysSub': WHATEVER THE INPUT: true; the input reads as it did. -/
def arraysSubSpec : ChangeSpec := { name := "arraysSub", fn := fun _ => fun
  | [d1, d2, d3] => { results := [.lit (.bool true)], args := [d1, d2, d3] }
  | _ => none }
def arraysSubRow : OpenClaim := { program := "ytmlifggklaeieaagreatdoor", sum := "813fd2027f3f9181e9a59998f0d14b6e0cd485420d20bbd899faf8c4565fe48b", func := "arbiter/arbiterlaw07.ArraysSub", spec := "arraysSub", inPlace := ["internal/bytealg.CountString", "internal/bytealg.IndexByteString", "internal/bytealg.IndexString"], unfollowed := true, recurses := true, named := ["unicode/utf8.first", "unicode/utf8.acceptRanges", "internal/bytealg.MaxLen"], apart := false, laid := [("unicode/utf8.acceptRanges", laid_unicode_utf8_acceptRanges), ("unicode/utf8.first", laid_unicode_utf8_first)] }
def ArraysSubSaid : Prop := arraysSubRow.holds Tryz.pinned (OpenSpec.ofChange arraysSubSpec)

/-- ITS FALSE NEIGHBOUR: 'it returns false'. Refute it at one input. -/
def arraysSubWrong : ChangeSpec := { name := "arraysSub", fn := fun _ => fun
  | [d1, d2, d3] => { results := [.lit (.bool false)], args := [d1, d2, d3] }
  | _ => none }
def ArraysSubWrongFalsely : Prop := arraysSubRow.holds Tryz.pinned (OpenSpec.ofChange arraysSubWrong)

/-- 'arbiterlaw08.AccessClasses': WHATEVER THE INPUT: true; the input reads as it did. -/
def accessClassesSpec : ChangeSpec := { name := "accessClasses", fn := fun _ => fun
  | [d1, d2, d3, d4] => { results := [.lit (.bool true)], args := [d1, d2, d3, d4] }
  | _ => none }
def accessClassesRow : OpenClaim := { program := "ytmlifggklaeieaagreatdoor", sum := "813fd2027f3f9181e9a59998f0d14b6e0cd485420d20bbd899faf8c4565fe48b", func := "arbiter/arbiterlaw08.AccessClasses", spec := "accessClasses", inPlace := ["internal/bytealg.CountString", "internal/bytealg.IndexByteString", "internal/bytealg.IndexString"], unfollowed := true, recurses := true, named := ["unicode/utf8.first", "unicode/utf8.acceptRanges", "internal/bytealg.MaxLen"], apart := false, laid := [("unicode/utf8.acceptRanges", laid_unicode_utf8_acceptRanges), ("unicode/utf8.first", laid_unicode_utf8_first)] }
def AccessClassesSaid : Prop := accessClassesRow.holds Tryz.pinned (OpenSpec.ofChange accessClassesSpec)

/-- ITS FALSE NEIGHBOUR: 'it returns false'. Refute it at one input. -/
def accessClassesWrong : ChangeSpec := { name := "accessClasses", fn := fun _ => fun
  | [d1, d2, d3, d4] => { results := [.lit (.bool false)], args := [d1, d2, d3, d4] }
  | _ => none }
def AccessClassesWrongFalsely : Prop := accessClassesRow.holds Tryz.pinned (OpenSpec.ofChange accessClassesWrong)

/-- 'arbiterlaw08.AccessMethods': WHATEVER THE INPUT: true; the input reads as it did. -/
def accessMethodsSpec : ChangeSpec := { name := "accessMethods", fn := fun _ => fun
  | [d1, d2, d3, d4] => { results := [.lit (.bool true)], args := [d1, d2, d3, d4] }
  | _ => none }
def accessMethodsRow : OpenClaim := { program := "ytmlifggklaeieaagreatdoor", sum := "813fd2027f3f9181e9a59998f0d14b6e0cd485420d20bbd899faf8c4565fe48b", func := "arbiter/arbiterlaw08.AccessMethods", spec := "accessMethods", inPlace := ["internal/bytealg.CountString", "internal/bytealg.IndexByteString", "internal/bytealg.IndexString"], unfollowed := true, recurses := true, named := ["unicode/utf8.first", "unicode/utf8.acceptRanges", "internal/bytealg.MaxLen"], apart := false, laid := [("unicode/utf8.acceptRanges", laid_unicode_utf8_acceptRanges), ("unicode/utf8.first", laid_unicode_utf8_first)] }
def AccessMethodsSaid : Prop := accessMethodsRow.holds Tryz.pinned (OpenSpec.ofChange accessMethodsSpec)

/-- ITS FALSE NEIGHBOUR: 'it returns false'. Refute it at one input. -/
def accessMethodsWrong : ChangeSpec := { name := "accessMethods", fn := fun _ => fun
  | [d1, d2, d3, d4] => { results := [.lit (.bool false)], args := [d1, d2, d3, d4] }
  | _ => none }
def AccessMethodsWrongFalsely : Prop := accessMethodsRow.holds Tryz.pinned (OpenSpec.ofChange accessMethodsWrong)

/-- 'arbiterlaw07.ArraysPlays': WHATEVER THE INPUT: true; the input reads as it did. -/
def arraysPlaysSpec : ChangeSpec := { name := "arraysPlays", fn := fun _ => fun
  | [d1, d2, d3] => { results := [.lit (.bool true)], args := [d1, d2, d3] }
  | _ => none }
def arraysPlaysRow : OpenClaim := { program := "ytmlifggklaeieaagreatdoor", sum := "813fd2027f3f9181e9a59998f0d14b6e0cd485420d20bbd899faf8c4565fe48b", func := "arbiter/arbiterlaw07.ArraysPlays", spec := "arraysPlays", inPlace := ["internal/bytealg.CountString", "internal/bytealg.IndexByteString", "internal/bytealg.IndexString"], unfollowed := true, recurses := true, named := ["unicode/utf8.first", "unicode/utf8.acceptRanges", "internal/bytealg.MaxLen"], apart := false, laid := [("unicode/utf8.acceptRanges", laid_unicode_utf8_acceptRanges), ("unicode/utf8.first", laid_unicode_utf8_first)] }
def ArraysPlaysSaid : Prop := arraysPlaysRow.holds Tryz.pinned (OpenSpec.ofChange arraysPlaysSpec)

/-- ITS FALSE NEIGHBOUR: 'it returns false'. Refute it at one input. -/
def arraysPlaysWrong : ChangeSpec := { name := "arraysPlays", fn := fun _ => fun
  | [d1, d2, d3] => { results := [.lit (.bool false)], args := [d1, d2, d3] }
  | _ => none }
def ArraysPlaysWrongFalsely : Prop := arraysPlaysRow.holds Tryz.pinned (OpenSpec.ofChange arraysPlaysWrong)

/-- 'arbiterlaw07.ArraysKeeps': WHATEVER THE INPUT: true; the input reads as it did. -/
def arraysKeepsSpec : ChangeSpec := { name := "arraysKeeps", fn := fun _ => fun
  | [d1, d2] => { results := [.lit (.bool true)], args := [d1, d2] }
  | _ => none }
def arraysKeepsRow : OpenClaim := { program := "ytmlifggklaeieaagreatdoor", sum := "813fd2027f3f9181e9a59998f0d14b6e0cd485420d20bbd899faf8c4565fe48b", func := "arbiter/arbiterlaw07.ArraysKeeps", spec := "arraysKeeps", inPlace := ["internal/bytealg.CountString", "internal/bytealg.IndexByteString", "internal/bytealg.IndexString"], unfollowed := true, recurses := true, named := ["unicode/utf8.first", "unicode/utf8.acceptRanges", "internal/bytealg.MaxLen"], apart := false, laid := [("unicode/utf8.acceptRanges", laid_unicode_utf8_acceptRanges), ("unicode/utf8.first", laid_unicode_utf8_first)] }
def ArraysKeepsSaid : Prop := arraysKeepsRow.holds Tryz.pinned (OpenSpec.ofChange arraysKeepsSpec)

/-- ITS FALSE NEIGHBOUR: 'it returns false'. Refute it at one input. -/
def arraysKeepsWrong : ChangeSpec := { name := "arraysKeeps", fn := fun _ => fun
  | [d1, d2] => { results := [.lit (.bool false)], args := [d1, d2] }
  | _ => none }
def ArraysKeepsWrongFalsely : Prop := arraysKeepsRow.holds Tryz.pinned (OpenSpec.ofChange arraysKeepsWrong)

/- THE SECOND FORM. 'bulk': how many values and letters a reading holds, each counted each time it is reached (what is shared counts as often as it is met; a slice's spare places count too). A statement '..UptoSaid' is the law's where the arguments, and the package variables that the reading takes, are together of bulk at most 1048576: NARROWER than '..Said'. Prove '..Said' where nothing that the law and all that it calls make is longer than what came in: it says more and counts as full. Else prove '..UptoSaid'. A law counts once. -/
mutual
def uptoBulk {H : Type} : DataW H → Nat
  | .lit (.string bytes) => bytes.length + 1
  | .lit _ => 1
  | .nil => 1
  | .ptr d => uptoBulk d + 1
  | .slice elems spare => uptoBulkAll elems + uptoBulkAll spare + 1
  | .agg parts => uptoBulkAll parts + 1
  | .iface _ d => uptoBulk d + 1
  | .map entries => uptoBulkEntries entries + 1
  | .held _ => 1
def uptoBulkAll {H : Type} : List (DataW H) → Nat
  | [] => 0
  | d :: r => uptoBulk d + uptoBulkAll r
def uptoBulkEntries {H : Type} : List (Lit × DataW H) → Nat
  | [] => 0
  | x :: r => uptoBulkEntry x + uptoBulkEntries r
def uptoBulkEntry {H : Type} : Lit × DataW H → Nat
  | (.string bytes, d) => bytes.length + uptoBulk d + 1
  | (_, d) => uptoBulk d + 1
 end
def uptoSmall : (H : Type) → List (DataW H) → Bool := fun _ ds => decide (uptoBulkAll ds ≤ 1048576)
def OpenSpec.upto (s : _root_.Go.ChangeSpec) : _root_.Go.OpenSpec := { _root_.Go.OpenSpec.ofChange s with cond := some uptoSmall }

/-- 'arbiterlaw07.ArraysSub', WHERE WHAT IT READS IS OF BULK AT MOST 1048576: true; the input reads as it did. -/
def arraysSubUptoRow : OpenClaim := { program := "ytmlifggklaeieaagreatdoor", sum := "813fd2027f3f9181e9a59998f0d14b6e0cd485420d20bbd899faf8c4565fe48b", func := "arbiter/arbiterlaw07.ArraysSub", spec := "arraysSub", inPlace := ["internal/bytealg.CountString", "internal/bytealg.IndexByteString", "internal/bytealg.IndexString"], unfollowed := true, recurses := true, named := ["unicode/utf8.first", "unicode/utf8.acceptRanges", "internal/bytealg.MaxLen"], apart := false, laid := [("unicode/utf8.acceptRanges", laid_unicode_utf8_acceptRanges), ("unicode/utf8.first", laid_unicode_utf8_first)], narrowed := true }
def ArraysSubUptoSaid : Prop := arraysSubUptoRow.holds Tryz.pinned (OpenSpec.upto arraysSubSpec)

/-- 'arbiterlaw08.AccessClasses', WHERE WHAT IT READS IS OF BULK AT MOST 1048576: true; the input reads as it did. -/
def accessClassesUptoRow : OpenClaim := { program := "ytmlifggklaeieaagreatdoor", sum := "813fd2027f3f9181e9a59998f0d14b6e0cd485420d20bbd899faf8c4565fe48b", func := "arbiter/arbiterlaw08.AccessClasses", spec := "accessClasses", inPlace := ["internal/bytealg.CountString", "internal/bytealg.IndexByteString", "internal/bytealg.IndexString"], unfollowed := true, recurses := true, named := ["unicode/utf8.first", "unicode/utf8.acceptRanges", "internal/bytealg.MaxLen"], apart := false, laid := [("unicode/utf8.acceptRanges", laid_unicode_utf8_acceptRanges), ("unicode/utf8.first", laid_unicode_utf8_first)], narrowed := true }
def AccessClassesUptoSaid : Prop := accessClassesUptoRow.holds Tryz.pinned (OpenSpec.upto accessClassesSpec)

/-- 'arbiterlaw08.AccessMethods', WHERE WHAT IT READS IS OF BULK AT MOST 1048576: true; the input reads as it did. -/
def accessMethodsUptoRow : OpenClaim := { program := "ytmlifggklaeieaagreatdoor", sum := "813fd2027f3f9181e9a59998f0d14b6e0cd485420d20bbd899faf8c4565fe48b", func := "arbiter/arbiterlaw08.AccessMethods", spec := "accessMethods", inPlace := ["internal/bytealg.CountString", "internal/bytealg.IndexByteString", "internal/bytealg.IndexString"], unfollowed := true, recurses := true, named := ["unicode/utf8.first", "unicode/utf8.acceptRanges", "internal/bytealg.MaxLen"], apart := false, laid := [("unicode/utf8.acceptRanges", laid_unicode_utf8_acceptRanges), ("unicode/utf8.first", laid_unicode_utf8_first)], narrowed := true }
def AccessMethodsUptoSaid : Prop := accessMethodsUptoRow.holds Tryz.pinned (OpenSpec.upto accessMethodsSpec)

/-- 'arbiterlaw07.ArraysPlays', WHERE WHAT IT READS IS OF BULK AT MOST 1048576: true; the input reads as it did. -/
def arraysPlaysUptoRow : OpenClaim := { program := "ytmlifggklaeieaagreatdoor", sum := "813fd2027f3f9181e9a59998f0d14b6e0cd485420d20bbd899faf8c4565fe48b", func := "arbiter/arbiterlaw07.ArraysPlays", spec := "arraysPlays", inPlace := ["internal/bytealg.CountString", "internal/bytealg.IndexByteString", "internal/bytealg.IndexString"], unfollowed := true, recurses := true, named := ["unicode/utf8.first", "unicode/utf8.acceptRanges", "internal/bytealg.MaxLen"], apart := false, laid := [("unicode/utf8.acceptRanges", laid_unicode_utf8_acceptRanges), ("unicode/utf8.first", laid_unicode_utf8_first)], narrowed := true }
def ArraysPlaysUptoSaid : Prop := arraysPlaysUptoRow.holds Tryz.pinned (OpenSpec.upto arraysPlaysSpec)

/-- 'arbiterlaw07.ArraysKeeps', WHERE WHAT IT READS IS OF BULK AT MOST 1048576: true; the input reads as it did. -/
def arraysKeepsUptoRow : OpenClaim := { program := "ytmlifggklaeieaagreatdoor", sum := "813fd2027f3f9181e9a59998f0d14b6e0cd485420d20bbd899faf8c4565fe48b", func := "arbiter/arbiterlaw07.ArraysKeeps", spec := "arraysKeeps", inPlace := ["internal/bytealg.CountString", "internal/bytealg.IndexByteString", "internal/bytealg.IndexString"], unfollowed := true, recurses := true, named := ["unicode/utf8.first", "unicode/utf8.acceptRanges", "internal/bytealg.MaxLen"], apart := false, laid := [("unicode/utf8.acceptRanges", laid_unicode_utf8_acceptRanges), ("unicode/utf8.first", laid_unicode_utf8_first)], narrowed := true }
def ArraysKeepsUptoSaid : Prop := arraysKeepsUptoRow.holds Tryz.pinned (OpenSpec.upto arraysKeepsSpec)

end Rows
end Go.Proofs.YtmlifggklaeieaaGreatDoor
