/-
  NARROWER THAN 'FOR EVERY INPUT', by the rows' own cells (each row's printed sentence says how): NamesValid: laid · NamesOrder: laid · NamesKeeps: laid · NamesCuts: laid · TypesParse: laid · NamesPlays: laid · TypesWrite: laid · TypesBack: laid · TypesDescs: laid · TypesTexts: laid.
  DERIVED. THE GIVEN ROWS OF THIS SEAT. 10 by the template 'for every input the law returns true; each argument reads behind the call as it read before'; 0 by the template 'total and deterministic' (their statements: YtpcdfjifhoofjaaDoorTotals.lean).
  GIVEN WITH THE SEED: the statements are not yours to turn. If you find one false, say at which input.
  Laid BY PROGRAM, IN A SANDBOX (cutbox-rows.mjs): the forced cells as the released guide's own fill.sh prints them over the translation 1e9359151f9248db… (all of the seat's roots in one cut). By AI agents, Wed Nov 11 2026. No macro, syntax, notation, axiom, sorry.
-/
import Derived.Test.YtpcdfjifhoofjaaDoorChecked
import GoSem.PinnedTables
import GoSem.Claim
import GoSem.ClaimJoined
import GoSem.ClaimMapViews
import Derived.JoinedTies
import Derived.KernelRfl
namespace Go.Proofs.YtpcdfjifhoofjaaDoor
/- THE CELL 'sum', in the pinned program and in every row, IS THE sha256 OF THE DUMP (.gsa) THAT YtpcdfjifhoofjaaDoorProg.lean LOADS. Nothing in Lean hashes anything: it is a label: what it is worth is what the hold of that sum in a sandbox is worth. -/
noncomputable def Tryd.pinned : Pinned := { name := "ytpcdfjifhoofjaadoor", sum := "1e9359151f9248dbae486e9b41bd4d30fdb3f09df3639e6b054f910329116fd7", checked := Tryd.checked }
namespace Rows
def none {H : Type} : Left H := { results := [], args := [] }

/- WHAT THE LISTED PACKAGE-LEVEL VARIABLES READ AS WHEN THE CALL BEGINS. Each datum BY PROGRAM (the guide's laid-datum.mjs) off the statement by which the dump's own 'gosem.cut.vars' lays the variable. In a bare row this is a premise. The card (YtpcdfjifhoofjaaDoorCards.lean) ties it to the program's text. -/
def laid_unicode_utf8_acceptRanges {H : Type} : DataW H := .agg [.agg [.lit (.int .u8 128), .lit (.int .u8 191)], .agg [.lit (.int .u8 160), .lit (.int .u8 191)], .agg [.lit (.int .u8 128), .lit (.int .u8 159)], .agg [.lit (.int .u8 144), .lit (.int .u8 191)], .agg [.lit (.int .u8 128), .lit (.int .u8 143)], .agg [.lit (.int .u8 0), .lit (.int .u8 0)], .agg [.lit (.int .u8 0), .lit (.int .u8 0)], .agg [.lit (.int .u8 0), .lit (.int .u8 0)], .agg [.lit (.int .u8 0), .lit (.int .u8 0)], .agg [.lit (.int .u8 0), .lit (.int .u8 0)], .agg [.lit (.int .u8 0), .lit (.int .u8 0)], .agg [.lit (.int .u8 0), .lit (.int .u8 0)], .agg [.lit (.int .u8 0), .lit (.int .u8 0)], .agg [.lit (.int .u8 0), .lit (.int .u8 0)], .agg [.lit (.int .u8 0), .lit (.int .u8 0)], .agg [.lit (.int .u8 0), .lit (.int .u8 0)]]
/-- One of Go's own tables, pinned by name: the form's constant. -/
def laid_unicode_utf8_first : DataW Unit := Go.Pinned.utf8First

/-- 'arbiterlaw01.NamesValid': WHATEVER THE INPUT: true; the input reads as it did. -/
def namesValidSpec : ChangeSpec := { name := "namesValid", fn := fun _ => fun
  | [d] => { results := [.lit (.bool true)], args := [d] }
  | _ => none }
def namesValidRow : OpenClaim := { program := "ytpcdfjifhoofjaadoor", sum := "1e9359151f9248dbae486e9b41bd4d30fdb3f09df3639e6b054f910329116fd7", func := "arbiter/arbiterlaw01.NamesValid", spec := "namesValid", inPlace := ["internal/bytealg.CountString", "internal/bytealg.IndexByteString", "internal/bytealg.IndexString"], unfollowed := true, recurses := true, named := ["unicode/utf8.first", "unicode/utf8.acceptRanges", "internal/bytealg.MaxLen"], apart := false, laid := [("unicode/utf8.acceptRanges", laid_unicode_utf8_acceptRanges), ("unicode/utf8.first", laid_unicode_utf8_first)] }
def NamesValidSaid : Prop := namesValidRow.holds Tryd.pinned (OpenSpec.ofChange namesValidSpec)

/-- ITS FALSE NEIGHBOUR: 'it returns false'. Refute it at one input. -/
def namesValidWrong : ChangeSpec := { name := "namesValid", fn := fun _ => fun
  | [d] => { results := [.lit (.bool false)], args := [d] }
  | _ => none }
def NamesValidWrongFalsely : Prop := namesValidRow.holds Tryd.pinned (OpenSpec.ofChange namesValidWrong)

/-- 'arbiterlaw01.NamesOrder': WHATEVER THE INPUT: true; the input reads as it did. -/
def namesOrderSpec : ChangeSpec := { name := "namesOrder", fn := fun _ => fun
  | [d1, d2, d3] => { results := [.lit (.bool true)], args := [d1, d2, d3] }
  | _ => none }
def namesOrderRow : OpenClaim := { program := "ytpcdfjifhoofjaadoor", sum := "1e9359151f9248dbae486e9b41bd4d30fdb3f09df3639e6b054f910329116fd7", func := "arbiter/arbiterlaw01.NamesOrder", spec := "namesOrder", inPlace := ["internal/bytealg.CountString", "internal/bytealg.IndexByteString", "internal/bytealg.IndexString"], unfollowed := true, recurses := true, named := ["unicode/utf8.first", "unicode/utf8.acceptRanges", "internal/bytealg.MaxLen"], apart := false, laid := [("unicode/utf8.acceptRanges", laid_unicode_utf8_acceptRanges), ("unicode/utf8.first", laid_unicode_utf8_first)] }
def NamesOrderSaid : Prop := namesOrderRow.holds Tryd.pinned (OpenSpec.ofChange namesOrderSpec)

/-- ITS FALSE NEIGHBOUR: 'it returns false'. Refute it at one input. -/
def namesOrderWrong : ChangeSpec := { name := "namesOrder", fn := fun _ => fun
  | [d1, d2, d3] => { results := [.lit (.bool false)], args := [d1, d2, d3] }
  | _ => none }
def NamesOrderWrongFalsely : Prop := namesOrderRow.holds Tryd.pinned (OpenSpec.ofChange namesOrderWrong)

/-- 'arbiterlaw01.NamesKeeps': WHATEVER THE INPUT: true; the input reads as it did. -/
def namesKeepsSpec : ChangeSpec := { name := "namesKeeps", fn := fun _ => fun
  | [d1, d2] => { results := [.lit (.bool true)], args := [d1, d2] }
  | _ => none }
def namesKeepsRow : OpenClaim := { program := "ytpcdfjifhoofjaadoor", sum := "1e9359151f9248dbae486e9b41bd4d30fdb3f09df3639e6b054f910329116fd7", func := "arbiter/arbiterlaw01.NamesKeeps", spec := "namesKeeps", inPlace := ["internal/bytealg.CountString", "internal/bytealg.IndexByteString", "internal/bytealg.IndexString", "internal/abi.NoEscape", "internal/bytealg.MakeNoZero"], unfollowed := true, recurses := true, named := ["unicode/utf8.first", "unicode/utf8.acceptRanges", "internal/bytealg.MaxLen"], apart := false, laid := [("unicode/utf8.acceptRanges", laid_unicode_utf8_acceptRanges), ("unicode/utf8.first", laid_unicode_utf8_first)] }
def NamesKeepsSaid : Prop := namesKeepsRow.holds Tryd.pinned (OpenSpec.ofChange namesKeepsSpec)

/-- ITS FALSE NEIGHBOUR: 'it returns false'. Refute it at one input. -/
def namesKeepsWrong : ChangeSpec := { name := "namesKeeps", fn := fun _ => fun
  | [d1, d2] => { results := [.lit (.bool false)], args := [d1, d2] }
  | _ => none }
def NamesKeepsWrongFalsely : Prop := namesKeepsRow.holds Tryd.pinned (OpenSpec.ofChange namesKeepsWrong)

/-- 'arbiterlaw01.NamesCuts': WHATEVER THE INPUT: true; the input reads as it did. -/
def namesCutsSpec : ChangeSpec := { name := "namesCuts", fn := fun _ => fun
  | [d] => { results := [.lit (.bool true)], args := [d] }
  | _ => none }
def namesCutsRow : OpenClaim := { program := "ytpcdfjifhoofjaadoor", sum := "1e9359151f9248dbae486e9b41bd4d30fdb3f09df3639e6b054f910329116fd7", func := "arbiter/arbiterlaw01.NamesCuts", spec := "namesCuts", inPlace := ["internal/bytealg.CountString", "internal/bytealg.IndexByteString", "internal/bytealg.IndexString", "internal/abi.NoEscape", "internal/bytealg.MakeNoZero"], unfollowed := true, recurses := true, named := ["unicode/utf8.first", "unicode/utf8.acceptRanges", "internal/bytealg.MaxLen"], apart := false, laid := [("unicode/utf8.acceptRanges", laid_unicode_utf8_acceptRanges), ("unicode/utf8.first", laid_unicode_utf8_first)] }
def NamesCutsSaid : Prop := namesCutsRow.holds Tryd.pinned (OpenSpec.ofChange namesCutsSpec)

/-- ITS FALSE NEIGHBOUR: 'it returns false'. Refute it at one input. -/
def namesCutsWrong : ChangeSpec := { name := "namesCuts", fn := fun _ => fun
  | [d] => { results := [.lit (.bool false)], args := [d] }
  | _ => none }
def NamesCutsWrongFalsely : Prop := namesCutsRow.holds Tryd.pinned (OpenSpec.ofChange namesCutsWrong)

/-- 'arbiterlaw02.TypesParse': WHATEVER THE INPUT: true; the input reads as it did. -/
def typesParseSpec : ChangeSpec := { name := "typesParse", fn := fun _ => fun
  | [d] => { results := [.lit (.bool true)], args := [d] }
  | _ => none }
def typesParseRow : OpenClaim := { program := "ytpcdfjifhoofjaadoor", sum := "1e9359151f9248dbae486e9b41bd4d30fdb3f09df3639e6b054f910329116fd7", func := "arbiter/arbiterlaw02.TypesParse", spec := "typesParse", inPlace := ["internal/bytealg.IndexByteString", "internal/bytealg.IndexString", "internal/bytealg.CountString"], unfollowed := true, recurses := true, named := ["internal/bytealg.MaxLen", "unicode/utf8.first", "unicode/utf8.acceptRanges"], apart := false, laid := [("unicode/utf8.acceptRanges", laid_unicode_utf8_acceptRanges), ("unicode/utf8.first", laid_unicode_utf8_first)] }
def TypesParseSaid : Prop := typesParseRow.holds Tryd.pinned (OpenSpec.ofChange typesParseSpec)

/-- ITS FALSE NEIGHBOUR: 'it returns false'. Refute it at one input. -/
def typesParseWrong : ChangeSpec := { name := "typesParse", fn := fun _ => fun
  | [d] => { results := [.lit (.bool false)], args := [d] }
  | _ => none }
def TypesParseWrongFalsely : Prop := typesParseRow.holds Tryd.pinned (OpenSpec.ofChange typesParseWrong)

/-- 'arbiterlaw01.NamesPlays': WHATEVER THE INPUT: true; the input reads as it did. -/
def namesPlaysSpec : ChangeSpec := { name := "namesPlays", fn := fun _ => fun
  | [d1, d2, d3] => { results := [.lit (.bool true)], args := [d1, d2, d3] }
  | _ => none }
def namesPlaysRow : OpenClaim := { program := "ytpcdfjifhoofjaadoor", sum := "1e9359151f9248dbae486e9b41bd4d30fdb3f09df3639e6b054f910329116fd7", func := "arbiter/arbiterlaw01.NamesPlays", spec := "namesPlays", inPlace := ["internal/bytealg.CountString", "internal/bytealg.IndexByteString", "internal/bytealg.IndexString", "internal/abi.NoEscape", "internal/bytealg.MakeNoZero"], unfollowed := true, recurses := true, named := ["unicode/utf8.first", "unicode/utf8.acceptRanges", "internal/bytealg.MaxLen"], apart := false, laid := [("unicode/utf8.acceptRanges", laid_unicode_utf8_acceptRanges), ("unicode/utf8.first", laid_unicode_utf8_first)] }
def NamesPlaysSaid : Prop := namesPlaysRow.holds Tryd.pinned (OpenSpec.ofChange namesPlaysSpec)

/-- ITS FALSE NEIGHBOUR: 'it returns false'. Refute it at one input. -/
def namesPlaysWrong : ChangeSpec := { name := "namesPlays", fn := fun _ => fun
  | [d1, d2, d3] => { results := [.lit (.bool false)], args := [d1, d2, d3] }
  | _ => none }
def NamesPlaysWrongFalsely : Prop := namesPlaysRow.holds Tryd.pinned (OpenSpec.ofChange namesPlaysWrong)

/-- 'arbiterlaw02.TypesWrite': WHATEVER THE INPUT: true; the input reads as it did. -/
def typesWriteSpec : ChangeSpec := { name := "typesWrite", fn := fun _ => fun
  | [d] => { results := [.lit (.bool true)], args := [d] }
  | _ => none }
def typesWriteRow : OpenClaim := { program := "ytpcdfjifhoofjaadoor", sum := "1e9359151f9248dbae486e9b41bd4d30fdb3f09df3639e6b054f910329116fd7", func := "arbiter/arbiterlaw02.TypesWrite", spec := "typesWrite", inPlace := ["internal/bytealg.IndexByteString", "internal/bytealg.IndexString", "internal/bytealg.CountString", "internal/abi.NoEscape", "internal/bytealg.MakeNoZero"], unfollowed := true, recurses := true, named := ["internal/bytealg.MaxLen", "unicode/utf8.first", "unicode/utf8.acceptRanges"], apart := false, laid := [("unicode/utf8.acceptRanges", laid_unicode_utf8_acceptRanges), ("unicode/utf8.first", laid_unicode_utf8_first)] }
def TypesWriteSaid : Prop := typesWriteRow.holds Tryd.pinned (OpenSpec.ofChange typesWriteSpec)

/-- ITS FALSE NEIGHBOUR: 'it returns false'. Refute it at one input. -/
def typesWriteWrong : ChangeSpec := { name := "typesWrite", fn := fun _ => fun
  | [d] => { results := [.lit (.bool false)], args := [d] }
  | _ => none }
def TypesWriteWrongFalsely : Prop := typesWriteRow.holds Tryd.pinned (OpenSpec.ofChange typesWriteWrong)

/-- 'arbiterlaw02.TypesBack': WHATEVER THE INPUT: true; the input reads as it did. -/
def typesBackSpec : ChangeSpec := { name := "typesBack", fn := fun _ => fun
  | [d] => { results := [.lit (.bool true)], args := [d] }
  | _ => none }
def typesBackRow : OpenClaim := { program := "ytpcdfjifhoofjaadoor", sum := "1e9359151f9248dbae486e9b41bd4d30fdb3f09df3639e6b054f910329116fd7", func := "arbiter/arbiterlaw02.TypesBack", spec := "typesBack", inPlace := ["internal/bytealg.IndexByteString", "internal/bytealg.IndexString", "internal/bytealg.CountString", "internal/abi.NoEscape", "internal/bytealg.MakeNoZero"], unfollowed := true, recurses := true, named := ["internal/bytealg.MaxLen", "unicode/utf8.first", "unicode/utf8.acceptRanges"], apart := false, laid := [("unicode/utf8.acceptRanges", laid_unicode_utf8_acceptRanges), ("unicode/utf8.first", laid_unicode_utf8_first)] }
def TypesBackSaid : Prop := typesBackRow.holds Tryd.pinned (OpenSpec.ofChange typesBackSpec)

/-- ITS FALSE NEIGHBOUR: 'it returns false'. Refute it at one input. -/
def typesBackWrong : ChangeSpec := { name := "typesBack", fn := fun _ => fun
  | [d] => { results := [.lit (.bool false)], args := [d] }
  | _ => none }
def TypesBackWrongFalsely : Prop := typesBackRow.holds Tryd.pinned (OpenSpec.ofChange typesBackWrong)

/-- 'arbiterlaw02.TypesDescs': WHATEVER THE INPUT: true; the input reads as it did. -/
def typesDescsSpec : ChangeSpec := { name := "typesDescs", fn := fun _ => fun
  | [d] => { results := [.lit (.bool true)], args := [d] }
  | _ => none }
def typesDescsRow : OpenClaim := { program := "ytpcdfjifhoofjaadoor", sum := "1e9359151f9248dbae486e9b41bd4d30fdb3f09df3639e6b054f910329116fd7", func := "arbiter/arbiterlaw02.TypesDescs", spec := "typesDescs", inPlace := ["internal/bytealg.IndexByteString", "internal/bytealg.IndexString", "internal/bytealg.CountString", "internal/abi.NoEscape", "internal/bytealg.MakeNoZero"], unfollowed := true, recurses := true, named := ["internal/bytealg.MaxLen", "unicode/utf8.first", "unicode/utf8.acceptRanges"], apart := false, laid := [("unicode/utf8.acceptRanges", laid_unicode_utf8_acceptRanges), ("unicode/utf8.first", laid_unicode_utf8_first)] }
def TypesDescsSaid : Prop := typesDescsRow.holds Tryd.pinned (OpenSpec.ofChange typesDescsSpec)

/-- ITS FALSE NEIGHBOUR: 'it returns false'. Refute it at one input. -/
def typesDescsWrong : ChangeSpec := { name := "typesDescs", fn := fun _ => fun
  | [d] => { results := [.lit (.bool false)], args := [d] }
  | _ => none }
def TypesDescsWrongFalsely : Prop := typesDescsRow.holds Tryd.pinned (OpenSpec.ofChange typesDescsWrong)

/-- 'arbiterlaw02.TypesTexts': WHATEVER THE INPUT: true; the input reads as it did. -/
def typesTextsSpec : ChangeSpec := { name := "typesTexts", fn := fun _ => fun
  | [d] => { results := [.lit (.bool true)], args := [d] }
  | _ => none }
def typesTextsRow : OpenClaim := { program := "ytpcdfjifhoofjaadoor", sum := "1e9359151f9248dbae486e9b41bd4d30fdb3f09df3639e6b054f910329116fd7", func := "arbiter/arbiterlaw02.TypesTexts", spec := "typesTexts", inPlace := ["internal/bytealg.IndexByteString", "internal/bytealg.IndexString", "internal/bytealg.CountString", "internal/abi.NoEscape", "internal/bytealg.MakeNoZero"], unfollowed := true, recurses := true, named := ["internal/bytealg.MaxLen", "unicode/utf8.first", "unicode/utf8.acceptRanges"], apart := false, laid := [("unicode/utf8.acceptRanges", laid_unicode_utf8_acceptRanges), ("unicode/utf8.first", laid_unicode_utf8_first)] }
def TypesTextsSaid : Prop := typesTextsRow.holds Tryd.pinned (OpenSpec.ofChange typesTextsSpec)

/-- ITS FALSE NEIGHBOUR: 'it returns false'. Refute it at one input. -/
def typesTextsWrong : ChangeSpec := { name := "typesTexts", fn := fun _ => fun
  | [d] => { results := [.lit (.bool false)], args := [d] }
  | _ => none }
def TypesTextsWrongFalsely : Prop := typesTextsRow.holds Tryd.pinned (OpenSpec.ofChange typesTextsWrong)

/- THE SECOND FORM. 'bulk': how many values and letters a reading holds, each counted each time it is reached (what is shared counts as often as it is met; a slice's spare places count too). A statement '..UptoSaid' is the law's where the arguments, and the package variables that the reading takes, are together of bulk at most 1048576: NARROWER than '..Said'. Prove '..Said' where nothing that the law and all that it calls make is longer than what came in: it says more and counts as full. Else prove '..UptoSaid'. A law counts once. -/
mutual
def uptoBulk {H : Type} : DataW H → Nat
  | .lit (.string bytes) => bytes.length + 1
  | .lit _ => 1
  | .nil => 1
  | .ptr d => uptoBulk d + 1
  | .slice elems spare => uptoBulkAll elems + uptoBulkAll spare + 1
  | .agg parts => uptoBulkAll parts + 1
  | .iface _ d => uptoBulk d + 1
  | .map entries => uptoBulkEntries entries + 1
  | .held _ => 1
def uptoBulkAll {H : Type} : List (DataW H) → Nat
  | [] => 0
  | d :: r => uptoBulk d + uptoBulkAll r
def uptoBulkEntries {H : Type} : List (Lit × DataW H) → Nat
  | [] => 0
  | x :: r => uptoBulkEntry x + uptoBulkEntries r
def uptoBulkEntry {H : Type} : Lit × DataW H → Nat
  | (.string bytes, d) => bytes.length + uptoBulk d + 1
  | (_, d) => uptoBulk d + 1
 end
def uptoSmall : (H : Type) → List (DataW H) → Bool := fun _ ds => decide (uptoBulkAll ds ≤ 1048576)
def OpenSpec.upto (s : _root_.Go.ChangeSpec) : _root_.Go.OpenSpec := { _root_.Go.OpenSpec.ofChange s with cond := some uptoSmall }

/-- 'arbiterlaw01.NamesValid', WHERE WHAT IT READS IS OF BULK AT MOST 1048576: true; the input reads as it did. -/
def namesValidUptoRow : OpenClaim := { program := "ytpcdfjifhoofjaadoor", sum := "1e9359151f9248dbae486e9b41bd4d30fdb3f09df3639e6b054f910329116fd7", func := "arbiter/arbiterlaw01.NamesValid", spec := "namesValid", inPlace := ["internal/bytealg.CountString", "internal/bytealg.IndexByteString", "internal/bytealg.IndexString"], unfollowed := true, recurses := true, named := ["unicode/utf8.first", "unicode/utf8.acceptRanges", "internal/bytealg.MaxLen"], apart := false, laid := [("unicode/utf8.acceptRanges", laid_unicode_utf8_acceptRanges), ("unicode/utf8.first", laid_unicode_utf8_first)], narrowed := true }
def NamesValidUptoSaid : Prop := namesValidUptoRow.holds Tryd.pinned (OpenSpec.upto namesValidSpec)

/-- 'arbiterlaw01.NamesOrder', WHERE WHAT IT READS IS OF BULK AT MOST 1048576: true; the input reads as it did. -/
def namesOrderUptoRow : OpenClaim := { program := "ytpcdfjifhoofjaadoor", sum := "1e9359151f9248dbae486e9b41bd4d30fdb3f09df3639e6b054f910329116fd7", func := "arbiter/arbiterlaw01.NamesOrder", spec := "namesOrder", inPlace := ["internal/bytealg.CountString", "internal/bytealg.IndexByteString", "internal/bytealg.IndexString"], unfollowed := true, recurses := true, named := ["unicode/utf8.first", "unicode/utf8.acceptRanges", "internal/bytealg.MaxLen"], apart := false, laid := [("unicode/utf8.acceptRanges", laid_unicode_utf8_acceptRanges), ("unicode/utf8.first", laid_unicode_utf8_first)], narrowed := true }
def NamesOrderUptoSaid : Prop := namesOrderUptoRow.holds Tryd.pinned (OpenSpec.upto namesOrderSpec)

/-- 'arbiterlaw01.NamesKeeps', WHERE WHAT IT READS IS OF BULK AT MOST 1048576: true; the input reads as it did. -/
def namesKeepsUptoRow : OpenClaim := { program := "ytpcdfjifhoofjaadoor", sum := "1e9359151f9248dbae486e9b41bd4d30fdb3f09df3639e6b054f910329116fd7", func := "arbiter/arbiterlaw01.NamesKeeps", spec := "namesKeeps", inPlace := ["internal/bytealg.CountString", "internal/bytealg.IndexByteString", "internal/bytealg.IndexString", "internal/abi.NoEscape", "internal/bytealg.MakeNoZero"], unfollowed := true, recurses := true, named := ["unicode/utf8.first", "unicode/utf8.acceptRanges", "internal/bytealg.MaxLen"], apart := false, laid := [("unicode/utf8.acceptRanges", laid_unicode_utf8_acceptRanges), ("unicode/utf8.first", laid_unicode_utf8_first)], narrowed := true }
def NamesKeepsUptoSaid : Prop := namesKeepsUptoRow.holds Tryd.pinned (OpenSpec.upto namesKeepsSpec)

/-- 'arbiterlaw01.NamesCuts', WHERE WHAT IT READS IS OF BULK AT MOST 1048576: true; the input reads as it did. -/
def namesCutsUptoRow : OpenClaim := { program := "ytpcdfjifhoofjaadoor", sum := "1e9359151f9248dbae486e9b41bd4d30fdb3f09df3639e6b054f910329116fd7", func := "arbiter/arbiterlaw01.NamesCuts", spec := "namesCuts", inPlace := ["internal/bytealg.CountString", "internal/bytealg.IndexByteString", "internal/bytealg.IndexString", "internal/abi.NoEscape", "internal/bytealg.MakeNoZero"], unfollowed := true, recurses := true, named := ["unicode/utf8.first", "unicode/utf8.acceptRanges", "internal/bytealg.MaxLen"], apart := false, laid := [("unicode/utf8.acceptRanges", laid_unicode_utf8_acceptRanges), ("unicode/utf8.first", laid_unicode_utf8_first)], narrowed := true }
def NamesCutsUptoSaid : Prop := namesCutsUptoRow.holds Tryd.pinned (OpenSpec.upto namesCutsSpec)

/-- 'arbiterlaw02.TypesParse', WHERE WHAT IT READS IS OF BULK AT MOST 1048576: true; the input reads as it did. -/
def typesParseUptoRow : OpenClaim := { program := "ytpcdfjifhoofjaadoor", sum := "1e9359151f9248dbae486e9b41bd4d30fdb3f09df3639e6b054f910329116fd7", func := "arbiter/arbiterlaw02.TypesParse", spec := "typesParse", inPlace := ["internal/bytealg.IndexByteString", "internal/bytealg.IndexString", "internal/bytealg.CountString"], unfollowed := true, recurses := true, named := ["internal/bytealg.MaxLen", "unicode/utf8.first", "unicode/utf8.acceptRanges"], apart := false, laid := [("unicode/utf8.acceptRanges", laid_unicode_utf8_acceptRanges), ("unicode/utf8.first", laid_unicode_utf8_first)], narrowed := true }
def TypesParseUptoSaid : Prop := typesParseUptoRow.holds Tryd.pinned (OpenSpec.upto typesParseSpec)

/-- 'arbiterlaw01.NamesPlays', WHERE WHAT IT READS IS OF BULK AT MOST 1048576: true; the input reads as it did. -/
def namesPlaysUptoRow : OpenClaim := { program := "ytpcdfjifhoofjaadoor", sum := "1e9359151f9248dbae486e9b41bd4d30fdb3f09df3639e6b054f910329116fd7", func := "arbiter/arbiterlaw01.NamesPlays", spec := "namesPlays", inPlace := ["internal/bytealg.CountString", "internal/bytealg.IndexByteString", "internal/bytealg.IndexString", "internal/abi.NoEscape", "internal/bytealg.MakeNoZero"], unfollowed := true, recurses := true, named := ["unicode/utf8.first", "unicode/utf8.acceptRanges", "internal/bytealg.MaxLen"], apart := false, laid := [("unicode/utf8.acceptRanges", laid_unicode_utf8_acceptRanges), ("unicode/utf8.first", laid_unicode_utf8_first)], narrowed := true }
def NamesPlaysUptoSaid : Prop := namesPlaysUptoRow.holds Tryd.pinned (OpenSpec.upto namesPlaysSpec)

/-- 'arbiterlaw02.TypesWrite', WHERE WHAT IT READS IS OF BULK AT MOST 1048576: true; the input reads as it did. -/
def typesWriteUptoRow : OpenClaim := { program := "ytpcdfjifhoofjaadoor", sum := "1e9359151f9248dbae486e9b41bd4d30fdb3f09df3639e6b054f910329116fd7", func := "arbiter/arbiterlaw02.TypesWrite", spec := "typesWrite", inPlace := ["internal/bytealg.IndexByteString", "internal/bytealg.IndexString", "internal/bytealg.CountString", "internal/abi.NoEscape", "internal/bytealg.MakeNoZero"], unfollowed := true, recurses := true, named := ["internal/bytealg.MaxLen", "unicode/utf8.first", "unicode/utf8.acceptRanges"], apart := false, laid := [("unicode/utf8.acceptRanges", laid_unicode_utf8_acceptRanges), ("unicode/utf8.first", laid_unicode_utf8_first)], narrowed := true }
def TypesWriteUptoSaid : Prop := typesWriteUptoRow.holds Tryd.pinned (OpenSpec.upto typesWriteSpec)

/-- 'arbiterlaw02.TypesBack', WHERE WHAT IT READS IS OF BULK AT MOST 1048576: true; the input reads as it did. -/
def typesBackUptoRow : OpenClaim := { program := "ytpcdfjifhoofjaadoor", sum := "1e9359151f9248dbae486e9b41bd4d30fdb3f09df3639e6b054f910329116fd7", func := "arbiter/arbiterlaw02.TypesBack", spec := "typesBack", inPlace := ["internal/bytealg.IndexByteString", "internal/bytealg.IndexString", "internal/bytealg.CountString", "internal/abi.NoEscape", "internal/bytealg.MakeNoZero"], unfollowed := true, recurses := true, named := ["internal/bytealg.MaxLen", "unicode/utf8.first", "unicode/utf8.acceptRanges"], apart := false, laid := [("unicode/utf8.acceptRanges", laid_unicode_utf8_acceptRanges), ("unicode/utf8.first", laid_unicode_utf8_first)], narrowed := true }
def TypesBackUptoSaid : Prop := typesBackUptoRow.holds Tryd.pinned (OpenSpec.upto typesBackSpec)

/-- 'arbiterlaw02.TypesDescs', WHERE WHAT IT READS IS OF BULK AT MOST 1048576: true; the input reads as it did. -/
def typesDescsUptoRow : OpenClaim := { program := "ytpcdfjifhoofjaadoor", sum := "1e9359151f9248dbae486e9b41bd4d30fdb3f09df3639e6b054f910329116fd7", func := "arbiter/arbiterlaw02.TypesDescs", spec := "typesDescs", inPlace := ["internal/bytealg.IndexByteString", "internal/bytealg.IndexString", "internal/bytealg.CountString", "internal/abi.NoEscape", "internal/bytealg.MakeNoZero"], unfollowed := true, recurses := true, named := ["internal/bytealg.MaxLen", "unicode/utf8.first", "unicode/utf8.acceptRanges"], apart := false, laid := [("unicode/utf8.acceptRanges", laid_unicode_utf8_acceptRanges), ("unicode/utf8.first", laid_unicode_utf8_first)], narrowed := true }
def TypesDescsUptoSaid : Prop := typesDescsUptoRow.holds Tryd.pinned (OpenSpec.upto typesDescsSpec)

/-- 'arbiterlaw02.TypesTexts', WHERE WHAT IT READS IS OF BULK AT MOST 1048576: true; the input reads as it did. -/
def typesTextsUptoRow : OpenClaim := { program := "ytpcdfjifhoofjaadoor", sum := "1e9359151f9248dbae486e9b41bd4d30fdb3f09df3639e6b054f910329116fd7", func := "arbiter/arbiterlaw02.TypesTexts", spec := "typesTexts", inPlace := ["internal/bytealg.IndexByteString", "internal/bytealg.IndexString", "internal/bytealg.CountString", "internal/abi.NoEscape", "internal/bytealg.MakeNoZero"], unfollowed := true, recurses := true, named := ["internal/bytealg.MaxLen", "unicode/utf8.first", "unicode/utf8.acceptRanges"], apart := false, laid := [("unicode/utf8.acceptRanges", laid_unicode_utf8_acceptRanges), ("unicode/utf8.first", laid_unicode_utf8_first)], narrowed := true }
def TypesTextsUptoSaid : Prop := typesTextsUptoRow.holds Tryd.pinned (OpenSpec.upto typesTextsSpec)

end Rows
end Go.Proofs.YtpcdfjifhoofjaaDoor
