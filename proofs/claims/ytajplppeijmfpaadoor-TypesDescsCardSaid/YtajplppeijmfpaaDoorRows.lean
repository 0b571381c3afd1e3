/-
  NARROWER THAN 'FOR EVERY INPUT', by the rows' own cells (each row's printed sentence says how): FlagsParse: laid · FlagsBack: laid · NamesKeeps: laid · TypesDescs: laid · TypesTexts: laid.
  DERIVED. THE GIVEN ROWS OF THIS SEAT. 5 by the template 'for every input the law returns true; each argument reads behind the call as it read before'; 0 by the template 'total and deterministic' (their statements: YtajplppeijmfpaaDoorTotals.lean).
  GIVEN WITH THE SEED: the statements are not yours to turn. If you find one false, say at which input.
  Laid BY PROGRAM, IN A SANDBOX (cutbox-rows.mjs): the forced cells as the released guide's own fill.sh prints them over the translation 5cd8a2103978abd1… (all of the seat's roots in one cut). By AI agents, Wed Nov 11 2026. No macro, syntax, notation, axiom, sorry.
-/
import Derived.Test.YtajplppeijmfpaaDoorChecked
import GoSem.PinnedTables
import GoSem.Claim
import GoSem.ClaimJoined
import GoSem.ClaimMapViews
import Derived.JoinedTies
import Derived.KernelRfl
namespace Go.Proofs.YtajplppeijmfpaaDoor
/- THE CELL 'sum', in the pinned program and in every row, IS THE sha256 OF THE DUMP (.gsa) THAT YtajplppeijmfpaaDoorProg.lean LOADS. Nothing in Lean hashes anything: it is a label: what it is worth is what the hold of that sum in a sandbox is worth. -/
noncomputable def Tryd.pinned : Pinned := { name := "ytajplppeijmfpaadoor", sum := "5cd8a2103978abd1ba3158667312ae16c5dae03c7239fe39b7eb873391262b5d", checked := Tryd.checked }
namespace Rows
def none {H : Type} : Left H := { results := [], args := [] }

/- WHAT THE LISTED PACKAGE-LEVEL VARIABLES READ AS WHEN THE CALL BEGINS. Each datum BY PROGRAM (the guide's laid-datum.mjs) off the statement by which the dump's own 'gosem.cut.vars' lays the variable. In a bare row this is a premise. The card (YtajplppeijmfpaaDoorCards.lean) ties it to the program's text. -/
def laid_unicode_utf8_acceptRanges {H : Type} : DataW H := .agg [.agg [.lit (.int .u8 128), .lit (.int .u8 191)], .agg [.lit (.int .u8 160), .lit (.int .u8 191)], .agg [.lit (.int .u8 128), .lit (.int .u8 159)], .agg [.lit (.int .u8 144), .lit (.int .u8 191)], .agg [.lit (.int .u8 128), .lit (.int .u8 143)], .agg [.lit (.int .u8 0), .lit (.int .u8 0)], .agg [.lit (.int .u8 0), .lit (.int .u8 0)], .agg [.lit (.int .u8 0), .lit (.int .u8 0)], .agg [.lit (.int .u8 0), .lit (.int .u8 0)], .agg [.lit (.int .u8 0), .lit (.int .u8 0)], .agg [.lit (.int .u8 0), .lit (.int .u8 0)], .agg [.lit (.int .u8 0), .lit (.int .u8 0)], .agg [.lit (.int .u8 0), .lit (.int .u8 0)], .agg [.lit (.int .u8 0), .lit (.int .u8 0)], .agg [.lit (.int .u8 0), .lit (.int .u8 0)], .agg [.lit (.int .u8 0), .lit (.int .u8 0)]]
/-- One of Go's own tables, pinned by name: the form's constant. -/
def laid_unicode_utf8_first : DataW Unit := Go.Pinned.utf8First

/-- 'arbiterlaw03.FlagsParse': WHATEVER THE INPUT: true; the input reads as it did. -/
def flagsParseSpec : ChangeSpec := { name := "flagsParse", fn := fun _ => fun
  | [d] => { results := [.lit (.bool true)], args := [d] }
  | _ => none }
def flagsParseRow : OpenClaim := { program := "ytajplppeijmfpaadoor", sum := "5cd8a2103978abd1ba3158667312ae16c5dae03c7239fe39b7eb873391262b5d", func := "arbiter/arbiterlaw03.FlagsParse", spec := "flagsParse", inPlace := ["internal/abi.NoEscape", "internal/bytealg.MakeNoZero", "internal/bytealg.IndexByteString", "internal/bytealg.IndexString"], unfollowed := true, recurses := true, named := ["unicode/utf8.first", "unicode/utf8.acceptRanges", "internal/bytealg.MaxLen"], apart := false, laid := [("unicode/utf8.acceptRanges", laid_unicode_utf8_acceptRanges), ("unicode/utf8.first", laid_unicode_utf8_first)] }
def FlagsParseSaid : Prop := flagsParseRow.holds Tryd.pinned (OpenSpec.ofChange flagsParseSpec)

/-- ITS FALSE NEIGHBOUR: 'it returns false'. Refute it at one input. -/
def flagsParseWrong : ChangeSpec := { name := "flagsParse", fn := fun _ => fun
  | [d] => { results := [.lit (.bool false)], args := [d] }
  | _ => none }
def FlagsParseWrongFalsely : Prop := flagsParseRow.holds Tryd.pinned (OpenSpec.ofChange flagsParseWrong)

/-- 'arbiterlaw03.FlagsBack': WHATEVER THE INPUT: true; the input reads as it did. -/
def flagsBackSpec : ChangeSpec := { name := "flagsBack", fn := fun _ => fun
  | [d1, d2, d3, d4] => { results := [.lit (.bool true)], args := [d1, d2, d3, d4] }
  | _ => none }
def flagsBackRow : OpenClaim := { program := "ytajplppeijmfpaadoor", sum := "5cd8a2103978abd1ba3158667312ae16c5dae03c7239fe39b7eb873391262b5d", func := "arbiter/arbiterlaw03.FlagsBack", spec := "flagsBack", inPlace := ["internal/abi.NoEscape", "internal/bytealg.MakeNoZero", "internal/bytealg.IndexByteString", "internal/bytealg.IndexString"], unfollowed := true, recurses := true, named := ["unicode/utf8.first", "unicode/utf8.acceptRanges", "internal/bytealg.MaxLen"], apart := false, laid := [("unicode/utf8.acceptRanges", laid_unicode_utf8_acceptRanges), ("unicode/utf8.first", laid_unicode_utf8_first)] }
def FlagsBackSaid : Prop := flagsBackRow.holds Tryd.pinned (OpenSpec.ofChange flagsBackSpec)

/-- ITS FALSE NEIGHBOUR: 'it returns false'. Refute it at one input. -/
def flagsBackWrong : ChangeSpec := { name := "flagsBack", fn := fun _ => fun
  | [d1, d2, d3, d4] => { results := [.lit (.bool false)], args := [d1, d2, d3, d4] }
  | _ => none }
def FlagsBackWrongFalsely : Prop := flagsBackRow.holds Tryd.pinned (OpenSpec.ofChange flagsBackWrong)

/-- 'arbiterlaw01.NamesKeeps': WHATEVER THE INPUT: true; the input reads as it did. -/
def namesKeepsSpec : ChangeSpec := { name := "namesKeeps", fn := fun _ => fun
  | [d1, d2] => { results := [.lit (.bool true)], args := [d1, d2] }
  | _ => none }
def namesKeepsRow : OpenClaim := { program := "ytajplppeijmfpaadoor", sum := "5cd8a2103978abd1ba3158667312ae16c5dae03c7239fe39b7eb873391262b5d", func := "arbiter/arbiterlaw01.NamesKeeps", spec := "namesKeeps", inPlace := ["internal/bytealg.CountString", "internal/bytealg.IndexByteString", "internal/bytealg.IndexString", "internal/abi.NoEscape", "internal/bytealg.MakeNoZero"], unfollowed := true, recurses := true, named := ["unicode/utf8.first", "unicode/utf8.acceptRanges", "internal/bytealg.MaxLen"], apart := false, laid := [("unicode/utf8.acceptRanges", laid_unicode_utf8_acceptRanges), ("unicode/utf8.first", laid_unicode_utf8_first)] }
def NamesKeepsSaid : Prop := namesKeepsRow.holds Tryd.pinned (OpenSpec.ofChange namesKeepsSpec)

/-- ITS FALSE NEIGHBOUR: 'it returns false'. Refute it at one input. -/
def namesKeepsWrong : ChangeSpec := { name := "namesKeeps", fn := fun _ => fun
  | [d1, d2] => { results := [.lit (.bool false)], args := [d1, d2] }
  | _ => none }
def NamesKeepsWrongFalsely : Prop := namesKeepsRow.holds Tryd.pinned (OpenSpec.ofChange namesKeepsWrong)

/-- 'arbiterlaw02.TypesDescs': WHATEVER THE INPUT: true; the input reads as it did. -/
def typesDescsSpec : ChangeSpec := { name := "typesDescs", fn := fun _ => fun
  | [d] => { results := [.lit (.bool true)], args := [d] }
  | _ => none }
def typesDescsRow : OpenClaim := { program := "ytajplppeijmfpaadoor", sum := "5cd8a2103978abd1ba3158667312ae16c5dae03c7239fe39b7eb873391262b5d", func := "arbiter/arbiterlaw02.TypesDescs", spec := "typesDescs", inPlace := ["internal/bytealg.IndexByteString", "internal/bytealg.IndexString", "internal/bytealg.CountString", "internal/abi.NoEscape", "internal/bytealg.MakeNoZero"], unfollowed := true, recurses := true, named := ["internal/bytealg.MaxLen", "unicode/utf8.first", "unicode/utf8.acceptRanges"], apart := false, laid := [("unicode/utf8.acceptRanges", laid_unicode_utf8_acceptRanges), ("unicode/utf8.first", laid_unicode_utf8_first)] }
def TypesDescsSaid : Prop := typesDescsRow.holds Tryd.pinned (OpenSpec.ofChange typesDescsSpec)

/-- ITS FALSE NEIGHBOUR: 'it returns false'. Refute it at one input. -/
def typesDescsWrong : ChangeSpec := { name := "typesDescs", fn := fun _ => fun
  | [d] => { results := [.lit (.bool false)], args := [d] }
  | _ => none }
def TypesDescsWrongFalsely : Prop := typesDescsRow.holds Tryd.pinned (OpenSpec.ofChange typesDescsWrong)

/-- 'arbiterlaw02.TypesTexts': WHATEVER THE INPUT: true; the input reads as it did. -/
def typesTextsSpec : ChangeSpec := { name := "typesTexts", fn := fun _ => fun
  | [d] => { results := [.lit (.bool true)], args := [d] }
  | _ => none }
def typesTextsRow : OpenClaim := { program := "ytajplppeijmfpaadoor", sum := "5cd8a2103978abd1ba3158667312ae16c5dae03c7239fe39b7eb873391262b5d", func := "arbiter/arbiterlaw02.TypesTexts", spec := "typesTexts", inPlace := ["internal/bytealg.IndexByteString", "internal/bytealg.IndexString", "internal/bytealg.CountString", "internal/abi.NoEscape", "internal/bytealg.MakeNoZero"], unfollowed := true, recurses := true, named := ["internal/bytealg.MaxLen", "unicode/utf8.first", "unicode/utf8.acceptRanges"], apart := false, laid := [("unicode/utf8.acceptRanges", laid_unicode_utf8_acceptRanges), ("unicode/utf8.first", laid_unicode_utf8_first)] }
def TypesTextsSaid : Prop := typesTextsRow.holds Tryd.pinned (OpenSpec.ofChange typesTextsSpec)

/-- ITS FALSE NEIGHBOUR: 'it returns false'. Refute it at one input. -/
def typesTextsWrong : ChangeSpec := { name := "typesTexts", fn := fun _ => fun
  | [d] => { results := [.lit (.bool false)], args := [d] }
  | _ => none }
def TypesTextsWrongFalsely : Prop := typesTextsRow.holds Tryd.pinned (OpenSpec.ofChange typesTextsWrong)

/- THE SECOND FORM. 'bulk': how many values and letters a reading holds, each counted each time it is reached (what is shared counts as often as it is met; a slice's spare places count too). A statement '..UptoSaid' is the law's where the arguments, and the package variables that the reading takes, are together of bulk at most 1048576: NARROWER than '..Said'. Prove '..Said' where nothing that the law and all that it calls make is longer than what came in: it says more and counts as full. Else prove '..UptoSaid'. A law counts once. -/
mutual
def uptoBulk {H : Type} : DataW H → Nat
  | .lit (.string bytes) => bytes.length + 1
  | .lit _ => 1
  | .nil => 1
  | .ptr d => uptoBulk d + 1
  | .slice elems spare => uptoBulkAll elems + uptoBulkAll spare + 1
  | .agg parts => uptoBulkAll parts + 1
  | .iface _ d => uptoBulk d + 1
  | .map entries => uptoBulkEntries entries + 1
  | .held _ => 1
def uptoBulkAll {H : Type} : List (DataW H) → Nat
  | [] => 0
  | d :: r => uptoBulk d + uptoBulkAll r
def uptoBulkEntries {H : Type} : List (Lit × DataW H) → Nat
  | [] => 0
  | x :: r => uptoBulkEntry x + uptoBulkEntries r
def uptoBulkEntry {H : Type} : Lit × DataW H → Nat
  | (.string bytes, d) => bytes.length + uptoBulk d + 1
  | (_, d) => uptoBulk d + 1
 end
def uptoSmall : (H : Type) → List (DataW H) → Bool := fun _ ds => decide (uptoBulkAll ds ≤ 1048576)
def OpenSpec.upto (s : _root_.Go.ChangeSpec) : _root_.Go.OpenSpec := { _root_.Go.OpenSpec.ofChange s with cond := some uptoSmall }

/-- 'arbiterlaw03.FlagsParse', WHERE WHAT IT READS IS OF BULK AT MOST 1048576: true; the input reads as it did. -/
def flagsParseUptoRow : OpenClaim := { program := "ytajplppeijmfpaadoor", sum := "5cd8a2103978abd1ba3158667312ae16c5dae03c7239fe39b7eb873391262b5d", func := "arbiter/arbiterlaw03.FlagsParse", spec := "flagsParse", inPlace := ["internal/abi.NoEscape", "internal/bytealg.MakeNoZero", "internal/bytealg.IndexByteString", "internal/bytealg.IndexString"], unfollowed := true, recurses := true, named := ["unicode/utf8.first", "unicode/utf8.acceptRanges", "internal/bytealg.MaxLen"], apart := false, laid := [("unicode/utf8.acceptRanges", laid_unicode_utf8_acceptRanges), ("unicode/utf8.first", laid_unicode_utf8_first)], narrowed := true }
def FlagsParseUptoSaid : Prop := flagsParseUptoRow.holds Tryd.pinned (OpenSpec.upto flagsParseSpec)

/-- 'arbiterlaw03.FlagsBack', WHERE WHAT IT READS IS OF BULK AT MOST 1048576: true; the input reads as it did. -/
def flagsBackUptoRow : OpenClaim := { program := "ytajplppeijmfpaadoor", sum := "5cd8a2103978abd1ba3158667312ae16c5dae03c7239fe39b7eb873391262b5d", func := "arbiter/arbiterlaw03.FlagsBack", spec := "flagsBack", inPlace := ["internal/abi.NoEscape", "internal/bytealg.MakeNoZero", "internal/bytealg.IndexByteString", "internal/bytealg.IndexString"], unfollowed := true, recurses := true, named := ["unicode/utf8.first", "unicode/utf8.acceptRanges", "internal/bytealg.MaxLen"], apart := false, laid := [("unicode/utf8.acceptRanges", laid_unicode_utf8_acceptRanges), ("unicode/utf8.first", laid_unicode_utf8_first)], narrowed := true }
def FlagsBackUptoSaid : Prop := flagsBackUptoRow.holds Tryd.pinned (OpenSpec.upto flagsBackSpec)

/-- 'arbiterlaw01.NamesKeeps', WHERE WHAT IT READS IS OF BULK AT MOST 1048576: true; the input reads as it did. -/
def namesKeepsUptoRow : OpenClaim := { program := "ytajplppeijmfpaadoor", sum := "5cd8a2103978abd1ba3158667312ae16c5dae03c7239fe39b7eb873391262b5d", func := "arbiter/arbiterlaw01.NamesKeeps", spec := "namesKeeps", inPlace := ["internal/bytealg.CountString", "internal/bytealg.IndexByteString", "internal/bytealg.IndexString", "internal/abi.NoEscape", "internal/bytealg.MakeNoZero"], unfollowed := true, recurses := true, named := ["unicode/utf8.first", "unicode/utf8.acceptRanges", "internal/bytealg.MaxLen"], apart := false, laid := [("unicode/utf8.acceptRanges", laid_unicode_utf8_acceptRanges), ("unicode/utf8.first", laid_unicode_utf8_first)], narrowed := true }
def NamesKeepsUptoSaid : Prop := namesKeepsUptoRow.holds Tryd.pinned (OpenSpec.upto namesKeepsSpec)

/-- 'arbiterlaw02.TypesDescs', WHERE WHAT IT READS IS OF BULK AT MOST 1048576: true; the input reads as it did. -/
def typesDescsUptoRow : OpenClaim := { program := "ytajplppeijmfpaadoor", sum := "5cd8a2103978abd1ba3158667312ae16c5dae03c7239fe39b7eb873391262b5d", func := "arbiter/arbiterlaw02.TypesDescs", spec := "typesDescs", inPlace := ["internal/bytealg.IndexByteString", "internal/bytealg.IndexString", "internal/bytealg.CountString", "internal/abi.NoEscape", "internal/bytealg.MakeNoZero"], unfollowed := true, recurses := true, named := ["internal/bytealg.MaxLen", "unicode/utf8.first", "unicode/utf8.acceptRanges"], apart := false, laid := [("unicode/utf8.acceptRanges", laid_unicode_utf8_acceptRanges), ("unicode/utf8.first", laid_unicode_utf8_first)], narrowed := true }
def TypesDescsUptoSaid : Prop := typesDescsUptoRow.holds Tryd.pinned (OpenSpec.upto typesDescsSpec)

/-- 'arbiterlaw02.TypesTexts', WHERE WHAT IT READS IS OF BULK AT MOST 1048576: true; the input reads as it did. -/
def typesTextsUptoRow : OpenClaim := { program := "ytajplppeijmfpaadoor", sum := "5cd8a2103978abd1ba3158667312ae16c5dae03c7239fe39b7eb873391262b5d", func := "arbiter/arbiterlaw02.TypesTexts", spec := "typesTexts", inPlace := ["internal/bytealg.IndexByteString", "internal/bytealg.IndexString", "internal/bytealg.CountString", "internal/abi.NoEscape", "internal/bytealg.MakeNoZero"], unfollowed := true, recurses := true, named := ["internal/bytealg.MaxLen", "unicode/utf8.first", "unicode/utf8.acceptRanges"], apart := false, laid := [("unicode/utf8.acceptRanges", laid_unicode_utf8_acceptRanges), ("unicode/utf8.first", laid_unicode_utf8_first)], narrowed := true }
def TypesTextsUptoSaid : Prop := typesTextsUptoRow.holds Tryd.pinned (OpenSpec.upto typesTextsSpec)

end Rows
end Go.Proofs.YtajplppeijmfpaaDoor
