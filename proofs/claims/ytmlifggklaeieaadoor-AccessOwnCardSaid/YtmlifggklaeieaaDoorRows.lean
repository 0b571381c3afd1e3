/-
  NARROWER THAN 'FOR EVERY INPUT', by the rows' own cells (each row's printed sentence says how): AccessNil: laid · ArraysOrder: laid · AccessOpen: laid · AccessOwn: laid · ArraysSteps: laid.
  DERIVED. THE GIVEN ROWS OF THIS SEAT. 5 by the template 'for every input the law returns true; each argument reads behind the call as it read before'; 0 by the template 'total and deterministic' (their statements: YtmlifggklaeieaaDoorTotals.lean).
  GIVEN WITH THE SEED: the statements are not yours to turn. If you find one false, say at which input.
  Laid BY PROGRAM, IN A SANDBOX (cutbox-rows.mjs): the forced cells as the released guide's own fill.sh prints them over the translation a9cff02d51926a71… (all of the seat's roots in one cut). By AI agents, Wed Nov 11 2026. No macro, syntax, notation, axiom, sorry.
-/
import Derived.Test.YtmlifggklaeieaaDoorChecked
import GoSem.PinnedTables
import GoSem.Claim
import GoSem.ClaimJoined
import GoSem.ClaimMapViews
import Derived.JoinedTies
import Derived.KernelRfl
namespace Go.Proofs.YtmlifggklaeieaaDoor
/- THE CELL 'sum', in the pinned program and in every row, IS THE sha256 OF THE DUMP (.gsa) THAT YtmlifggklaeieaaDoorProg.lean LOADS. Nothing in Lean hashes anything: it is a label: what it is worth is what the hold of that sum in a sandbox is worth. -/
noncomputable def Tryd.pinned : Pinned := { name := "ytmlifggklaeieaadoor", sum := "a9cff02d51926a716074dd8ea6b0303f58184ebcd84d96341bf6fda89fcca129", checked := Tryd.checked }
namespace Rows
def none {H : Type} : Left H := { results := [], args := [] }

/- WHAT THE LISTED PACKAGE-LEVEL VARIABLES READ AS WHEN THE CALL BEGINS. Each datum BY PROGRAM (the guide's laid-datum.mjs) off the statement by which the dump's own 'gosem.cut.vars' lays the variable. In a bare row this is a premise. The card (YtmlifggklaeieaaDoorCards.lean) ties it to the program's text. -/
def laid_unicode_utf8_acceptRanges {H : Type} : DataW H := .agg [.agg [.lit (.int .u8 128), .lit (.int .u8 191)], .agg [.lit (.int .u8 160), .lit (.int .u8 191)], .agg [.lit (.int .u8 128), .lit (.int .u8 159)], .agg [.lit (.int .u8 144), .lit (.int .u8 191)], .agg [.lit (.int .u8 128), .lit (.int .u8 143)], .agg [.lit (.int .u8 0), .lit (.int .u8 0)], .agg [.lit (.int .u8 0), .lit (.int .u8 0)], .agg [.lit (.int .u8 0), .lit (.int .u8 0)], .agg [.lit (.int .u8 0), .lit (.int .u8 0)], .agg [.lit (.int .u8 0), .lit (.int .u8 0)], .agg [.lit (.int .u8 0), .lit (.int .u8 0)], .agg [.lit (.int .u8 0), .lit (.int .u8 0)], .agg [.lit (.int .u8 0), .lit (.int .u8 0)], .agg [.lit (.int .u8 0), .lit (.int .u8 0)], .agg [.lit (.int .u8 0), .lit (.int .u8 0)], .agg [.lit (.int .u8 0), .lit (.int .u8 0)]]
/-- One of Go's own tables, pinned by name: the form's constant. -/
def laid_unicode_utf8_first : DataW Unit := Go.Pinned.utf8First

/-- 'arbiterlaw08.AccessNil': WHATEVER THE INPUT: true; the input reads as it did. -/
def accessNilSpec : ChangeSpec := { name := "accessNil", fn := fun _ => fun
  | [] => { results := [.lit (.bool true)], args := [] }
  | _ => none }
def accessNilRow : OpenClaim := { program := "ytmlifggklaeieaadoor", sum := "a9cff02d51926a716074dd8ea6b0303f58184ebcd84d96341bf6fda89fcca129", func := "arbiter/arbiterlaw08.AccessNil", spec := "accessNil", inPlace := ["internal/bytealg.CountString", "internal/bytealg.IndexByteString", "internal/bytealg.IndexString"], unfollowed := true, recurses := true, named := ["unicode/utf8.first", "unicode/utf8.acceptRanges", "internal/bytealg.MaxLen"], apart := false, laid := [("unicode/utf8.acceptRanges", laid_unicode_utf8_acceptRanges), ("unicode/utf8.first", laid_unicode_utf8_first)] }
def AccessNilSaid : Prop := accessNilRow.holds Tryd.pinned (OpenSpec.ofChange accessNilSpec)

/-- ITS FALSE NEIGHBOUR: 'it returns false'. Refute it at one input. -/
def accessNilWrong : ChangeSpec := { name := "accessNil", fn := fun _ => fun
  | [] => { results := [.lit (.bool false)], args := [] }
  | _ => none }
def AccessNilWrongFalsely : Prop := accessNilRow.holds Tryd.pinned (OpenSpec.ofChange accessNilWrong)

/-- 'arbiterlaw07.ArraysOrder': WHATEVER THE INPUT: true; the input reads as it did. -/
def arraysOrderSpec : ChangeSpec := { name := "arraysOrder", fn := fun _ => fun
  | [d1, d2, d3, d4] => { results := [.lit (.bool true)], args := [d1, d2, d3, d4] }
  | _ => none }
def arraysOrderRow : OpenClaim := { program := "ytmlifggklaeieaadoor", sum := "a9cff02d51926a716074dd8ea6b0303f58184ebcd84d96341bf6fda89fcca129", func := "arbiter/arbiterlaw07.ArraysOrder", spec := "arraysOrder", inPlace := ["internal/bytealg.CountString", "internal/bytealg.IndexByteString", "internal/bytealg.IndexString"], unfollowed := true, recurses := true, named := ["unicode/utf8.first", "unicode/utf8.acceptRanges", "internal/bytealg.MaxLen"], apart := false, laid := [("unicode/utf8.acceptRanges", laid_unicode_utf8_acceptRanges), ("unicode/utf8.first", laid_unicode_utf8_first)] }
def ArraysOrderSaid : Prop := arraysOrderRow.holds Tryd.pinned (OpenSpec.ofChange arraysOrderSpec)

/-- ITS FALSE NEIGHBOUR: 'it returns false'. Refute it at one input. -/
def arraysOrderWrong : ChangeSpec := { name := "arraysOrder", fn := fun _ => fun
  | [d1, d2, d3, d4] => { results := [.lit (.bool false)], args := [d1, d2, d3, d4] }
  | _ => none }
def ArraysOrderWrongFalsely : Prop := arraysOrderRow.holds Tryd.pinned (OpenSpec.ofChange arraysOrderWrong)

/-- 'arbiterlaw08.AccessOpen': WHATEVER THE INPUT: true; the input reads as it did. -/
def accessOpenSpec : ChangeSpec := { name := "accessOpen", fn := fun _ => fun
  | [d1, d2, d3, d4] => { results := [.lit (.bool true)], args := [d1, d2, d3, d4] }
  | _ => none }
def accessOpenRow : OpenClaim := { program := "ytmlifggklaeieaadoor", sum := "a9cff02d51926a716074dd8ea6b0303f58184ebcd84d96341bf6fda89fcca129", func := "arbiter/arbiterlaw08.AccessOpen", spec := "accessOpen", inPlace := ["internal/bytealg.CountString", "internal/bytealg.IndexByteString", "internal/bytealg.IndexString"], unfollowed := true, recurses := true, named := ["unicode/utf8.first", "unicode/utf8.acceptRanges", "internal/bytealg.MaxLen"], apart := false, laid := [("unicode/utf8.acceptRanges", laid_unicode_utf8_acceptRanges), ("unicode/utf8.first", laid_unicode_utf8_first)] }
def AccessOpenSaid : Prop := accessOpenRow.holds Tryd.pinned (OpenSpec.ofChange accessOpenSpec)

/-- ITS FALSE NEIGHBOUR: 'it returns false'. Refute it at one input. -/
def accessOpenWrong : ChangeSpec := { name := "accessOpen", fn := fun _ => fun
  | [d1, d2, d3, d4] => { results := [.lit (.bool false)], args := [d1, d2, d3, d4] }
  | _ => none }
def AccessOpenWrongFalsely : Prop := accessOpenRow.holds Tryd.pinned (OpenSpec.ofChange accessOpenWrong)

/-- 'arbiterlaw08.AccessOwn': WHATEVER THE INPUT: true; the input reads as it did. -/
def accessOwnSpec : ChangeSpec := { name := "accessOwn", fn := fun _ => fun
  | [d1, d2, d3, d4, d5] => { results := [.lit (.bool true)], args := [d1, d2, d3, d4, d5] }
  | _ => none }
def accessOwnRow : OpenClaim := { program := "ytmlifggklaeieaadoor", sum := "a9cff02d51926a716074dd8ea6b0303f58184ebcd84d96341bf6fda89fcca129", func := "arbiter/arbiterlaw08.AccessOwn", spec := "accessOwn", inPlace := ["internal/bytealg.CountString", "internal/bytealg.IndexByteString", "internal/bytealg.IndexString"], unfollowed := true, recurses := true, named := ["unicode/utf8.first", "unicode/utf8.acceptRanges", "internal/bytealg.MaxLen"], apart := false, laid := [("unicode/utf8.acceptRanges", laid_unicode_utf8_acceptRanges), ("unicode/utf8.first", laid_unicode_utf8_first)] }
def AccessOwnSaid : Prop := accessOwnRow.holds Tryd.pinned (OpenSpec.ofChange accessOwnSpec)

/-- ITS FALSE NEIGHBOUR: 'it returns false'. Refute it at one input. -/
def accessOwnWrong : ChangeSpec := { name := "accessOwn", fn := fun _ => fun
  | [d1, d2, d3, d4, d5] => { results := [.lit (.bool false)], args := [d1, d2, d3, d4, d5] }
  | _ => none }
def AccessOwnWrongFalsely : Prop := accessOwnRow.holds Tryd.pinned (OpenSpec.ofChange accessOwnWrong)

/-- 'arbiterlaw07.ArraysSteps': WHATEVER THE INPUT: true; the input reads as it did. -/
def arraysStepsSpec : ChangeSpec := { name := "arraysSteps", fn := fun _ => fun
  | [d1, d2, d3] => { results := [.lit (.bool true)], args := [d1, d2, d3] }
  | _ => none }
def arraysStepsRow : OpenClaim := { program := "ytmlifggklaeieaadoor", sum := "a9cff02d51926a716074dd8ea6b0303f58184ebcd84d96341bf6fda89fcca129", func := "arbiter/arbiterlaw07.ArraysSteps", spec := "arraysSteps", inPlace := ["internal/bytealg.CountString", "internal/bytealg.IndexByteString", "internal/bytealg.IndexString"], unfollowed := true, recurses := true, named := ["unicode/utf8.first", "unicode/utf8.acceptRanges", "internal/bytealg.MaxLen"], apart := false, laid := [("unicode/utf8.acceptRanges", laid_unicode_utf8_acceptRanges), ("unicode/utf8.first", laid_unicode_utf8_first)] }
def ArraysStepsSaid : Prop := arraysStepsRow.holds Tryd.pinned (OpenSpec.ofChange arraysStepsSpec)

/-- ITS FALSE NEIGHBOUR: 'it returns false'. Refute it at one input. -/
def arraysStepsWrong : ChangeSpec := { name := "arraysSteps", fn := fun _ => fun
  | [d1, d2, d3] => { results := [.lit (.bool false)], args := [d1, d2, d3] }
  | _ => none }
def ArraysStepsWrongFalsely : Prop := arraysStepsRow.holds Tryd.pinned (OpenSpec.ofChange arraysStepsWrong)

/- THE SECOND FORM. 'bulk': how many values and letters a reading holds, each counted each time it is reached (what is shared counts as often as it is met; a slice's spare places count too). A statement '..UptoSaid' is the law's where the arguments, and the package variables that the reading takes, are together of bulk at most 1048576: NARROWER than '..Said'. Prove '..Said' where nothing that the law and all that it calls make is longer than what came in: it says more and counts as full. Else prove '..UptoSaid'. A law counts once. -/
mutual
def uptoBulk {H : Type} : DataW H → Nat
  | .lit (.string bytes) => bytes.length + 1
  | .lit _ => 1
  | .nil => 1
  | .ptr d => uptoBulk d + 1
  | .slice elems spare => uptoBulkAll elems + uptoBulkAll spare + 1
  | .agg parts => uptoBulkAll parts + 1
  | .iface _ d => uptoBulk d + 1
  | .map entries => uptoBulkEntries entries + 1
  | .held _ => 1
def uptoBulkAll {H : Type} : List (DataW H) → Nat
  | [] => 0
  | d :: r => uptoBulk d + uptoBulkAll r
def uptoBulkEntries {H : Type} : List (Lit × DataW H) → Nat
  | [] => 0
  | x :: r => uptoBulkEntry x + uptoBulkEntries r
def uptoBulkEntry {H : Type} : Lit × DataW H → Nat
  | (.string bytes, d) => bytes.length + uptoBulk d + 1
  | (_, d) => uptoBulk d + 1
 end
def uptoSmall : (H : Type) → List (DataW H) → Bool := fun _ ds => decide (uptoBulkAll ds ≤ 1048576)
def OpenSpec.upto (s : _root_.Go.ChangeSpec) : _root_.Go.OpenSpec := { _root_.Go.OpenSpec.ofChange s with cond := some uptoSmall }

/-- 'arbiterlaw08.AccessNil', WHERE WHAT IT READS IS OF BULK AT MOST 1048576: true; the input reads as it did. -/
def accessNilUptoRow : OpenClaim := { program := "ytmlifggklaeieaadoor", sum := "a9cff02d51926a716074dd8ea6b0303f58184ebcd84d96341bf6fda89fcca129", func := "arbiter/arbiterlaw08.AccessNil", spec := "accessNil", inPlace := ["internal/bytealg.CountString", "internal/bytealg.IndexByteString", "internal/bytealg.IndexString"], unfollowed := true, recurses := true, named := ["unicode/utf8.first", "unicode/utf8.acceptRanges", "internal/bytealg.MaxLen"], apart := false, laid := [("unicode/utf8.acceptRanges", laid_unicode_utf8_acceptRanges), ("unicode/utf8.first", laid_unicode_utf8_first)], narrowed := true }
def AccessNilUptoSaid : Prop := accessNilUptoRow.holds Tryd.pinned (OpenSpec.upto accessNilSpec)

/-- 'arbiterlaw07.ArraysOrder', WHERE WHAT IT READS IS OF BULK AT MOST 1048576: true; the input reads as it did. -/
def arraysOrderUptoRow : OpenClaim := { program := "ytmlifggklaeieaadoor", sum := "a9cff02d51926a716074dd8ea6b0303f58184ebcd84d96341bf6fda89fcca129", func := "arbiter/arbiterlaw07.ArraysOrder", spec := "arraysOrder", inPlace := ["internal/bytealg.CountString", "internal/bytealg.IndexByteString", "internal/bytealg.IndexString"], unfollowed := true, recurses := true, named := ["unicode/utf8.first", "unicode/utf8.acceptRanges", "internal/bytealg.MaxLen"], apart := false, laid := [("unicode/utf8.acceptRanges", laid_unicode_utf8_acceptRanges), ("unicode/utf8.first", laid_unicode_utf8_first)], narrowed := true }
def ArraysOrderUptoSaid : Prop := arraysOrderUptoRow.holds Tryd.pinned (OpenSpec.upto arraysOrderSpec)

/-- 'arbiterlaw08.AccessOpen', WHERE WHAT IT READS IS OF BULK AT MOST 1048576: true; the input reads as it did. -/
def accessOpenUptoRow : OpenClaim := { program := "ytmlifggklaeieaadoor", sum := "a9cff02d51926a716074dd8ea6b0303f58184ebcd84d96341bf6fda89fcca129", func := "arbiter/arbiterlaw08.AccessOpen", spec := "accessOpen", inPlace := ["internal/bytealg.CountString", "internal/bytealg.IndexByteString", "internal/bytealg.IndexString"], unfollowed := true, recurses := true, named := ["unicode/utf8.first", "unicode/utf8.acceptRanges", "internal/bytealg.MaxLen"], apart := false, laid := [("unicode/utf8.acceptRanges", laid_unicode_utf8_acceptRanges), ("unicode/utf8.first", laid_unicode_utf8_first)], narrowed := true }
def AccessOpenUptoSaid : Prop := accessOpenUptoRow.holds Tryd.pinned (OpenSpec.upto accessOpenSpec)

/-- 'arbiterlaw08.AccessOwn', WHERE WHAT IT READS IS OF BULK AT MOST 1048576: true; the input reads as it did. -/
def accessOwnUptoRow : OpenClaim := { program := "ytmlifggklaeieaadoor", sum := "a9cff02d51926a716074dd8ea6b0303f58184ebcd84d96341bf6fda89fcca129", func := "arbiter/arbiterlaw08.AccessOwn", spec := "accessOwn", inPlace := ["internal/bytealg.CountString", "internal/bytealg.IndexByteString", "internal/bytealg.IndexString"], unfollowed := true, recurses := true, named := ["unicode/utf8.first", "unicode/utf8.acceptRanges", "internal/bytealg.MaxLen"], apart := false, laid := [("unicode/utf8.acceptRanges", laid_unicode_utf8_acceptRanges), ("unicode/utf8.first", laid_unicode_utf8_first)], narrowed := true }
def AccessOwnUptoSaid : Prop := accessOwnUptoRow.holds Tryd.pinned (OpenSpec.upto accessOwnSpec)

/-- 'arbiterlaw07.ArraysSteps', WHERE WHAT IT READS IS OF BULK AT MOST 1048576: true; the input reads as it did. -/
def arraysStepsUptoRow : OpenClaim := { program := "ytmlifggklaeieaadoor", sum := "a9cff02d51926a716074dd8ea6b0303f58184ebcd84d96341bf6fda89fcca129", func := "arbiter/arbiterlaw07.ArraysSteps", spec := "arraysSteps", inPlace := ["internal/bytealg.CountString", "internal/bytealg.IndexByteString", "internal/bytealg.IndexString"], unfollowed := true, recurses := true, named := ["unicode/utf8.first", "unicode/utf8.acceptRanges", "internal/bytealg.MaxLen"], apart := false, laid := [("unicode/utf8.acceptRanges", laid_unicode_utf8_acceptRanges), ("unicode/utf8.first", laid_unicode_utf8_first)], narrowed := true }
def ArraysStepsUptoSaid : Prop := arraysStepsUptoRow.holds Tryd.pinned (OpenSpec.upto arraysStepsSpec)

end Rows
end Go.Proofs.YtmlifggklaeieaaDoor
