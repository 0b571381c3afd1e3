/-
  No cell of these rows narrows 'for every input' (looked for: loops, veiled, ifaces, maps, wideKeys, modest, calm, conditions, laid).
  DERIVED. THE GIVEN ROWS OF THIS SEAT. 2 by the template 'for every input the law returns true; each argument reads behind the call as it read before'; 0 by the template 'total and deterministic' (their statements: YtmkjeojamhfgfaaTotals.lean).
  GIVEN WITH THE SEED: the statements are not yours to turn. If you find one false, say at which input.
  Laid BY PROGRAM, IN A SANDBOX (cutbox-rows.mjs): the forced cells as the released guide's own fill.sh prints them over the translation f1b7918337e59984… (all of the seat's roots in one cut). By AI agents, Wed Nov 11 2026. No macro, syntax, notation, axiom, sorry.
-/
import Derived.Test.YtmkjeojamhfgfaaChecked
import GoSem.Claim
import GoSem.ClaimJoined
import GoSem.ClaimMapViews
import Derived.JoinedTies
import Derived.KernelRfl
namespace Go.Proofs.Ytmkjeojamhfgfaa
/- THE CELL 'sum', in the pinned program and in every row, IS THE sha256 OF THE DUMP (.gsa) THAT YtmkjeojamhfgfaaProg.lean LOADS. Nothing in Lean hashes anything: it is a label: what it is worth is what the hold of that sum in a sandbox is worth. -/
noncomputable def Try.pinned : Pinned := { name := "ytmkjeojamhfgfaa", sum := "f1b7918337e599840d8360d2143d6b637dfff4d0d35dcf7ed77c9c01e4321f0e", checked := Try.checked }
namespace Rows
def none {H : Type} : Left H := { results := [], args := [] }

/-- 'arbiterlaw03.FlagsSound': WHATEVER THE INPUT: true; the input reads as it did. -/
def flagsSoundSpec : ChangeSpec := { name := "flagsSound", fn := fun _ => fun
  | [d1, d2] => { results := [.lit (.bool true)], args := [d1, d2] }
  | _ => none }
def flagsSoundRow : OpenClaim := { program := "ytmkjeojamhfgfaa", sum := "f1b7918337e599840d8360d2143d6b637dfff4d0d35dcf7ed77c9c01e4321f0e", func := "arbiter/arbiterlaw03.FlagsSound", spec := "flagsSound", inPlace := ["internal/abi.NoEscape", "internal/bytealg.MakeNoZero"], apart := false }
def FlagsSoundSaid : Prop := flagsSoundRow.holds Try.pinned (OpenSpec.ofChange flagsSoundSpec)

/-- ITS FALSE NEIGHBOUR: 'it returns false'. Refute it at one input. -/
def flagsSoundWrong : ChangeSpec := { name := "flagsSound", fn := fun _ => fun
  | [d1, d2] => { results := [.lit (.bool false)], args := [d1, d2] }
  | _ => none }
def FlagsSoundWrongFalsely : Prop := flagsSoundRow.holds Try.pinned (OpenSpec.ofChange flagsSoundWrong)

/-- 'arbiterlaw03.FlagsPlays': WHATEVER THE INPUT: true; the input reads as it did. -/
def flagsPlaysSpec : ChangeSpec := { name := "flagsPlays", fn := fun _ => fun
  | [d1, d2, d3] => { results := [.lit (.bool true)], args := [d1, d2, d3] }
  | _ => none }
def flagsPlaysRow : OpenClaim := { program := "ytmkjeojamhfgfaa", sum := "f1b7918337e599840d8360d2143d6b637dfff4d0d35dcf7ed77c9c01e4321f0e", func := "arbiter/arbiterlaw03.FlagsPlays", spec := "flagsPlays", inPlace := ["internal/abi.NoEscape", "internal/bytealg.MakeNoZero"], apart := false }
def FlagsPlaysSaid : Prop := flagsPlaysRow.holds Try.pinned (OpenSpec.ofChange flagsPlaysSpec)

/-- ITS FALSE NEIGHBOUR: 'it returns false'. Refute it at one input. -/
def flagsPlaysWrong : ChangeSpec := { name := "flagsPlays", fn := fun _ => fun
  | [d1, d2, d3] => { results := [.lit (.bool false)], args := [d1, d2, d3] }
  | _ => none }
def FlagsPlaysWrongFalsely : Prop := flagsPlaysRow.holds Try.pinned (OpenSpec.ofChange flagsPlaysWrong)

/- THE SECOND FORM. 'bulk': how many values and letters a reading holds, each counted each time it is reached (what is shared counts as often as it is met; a slice's spare places count too). A statement '..UptoSaid' is the law's where the arguments, and the package variables that the reading takes, are together of bulk at most 1048576: NARROWER than '..Said'. Prove '..Said' where nothing that the law and all that it calls make is longer than what came in: it says more and counts as full. Else prove '..UptoSaid'. A law counts once. -/
mutual
def uptoBulk {H : Type} : DataW H → Nat
  | .lit (.string bytes) => bytes.length + 1
  | .lit _ => 1
  | .nil => 1
  | .ptr d => uptoBulk d + 1
  | .slice elems spare => uptoBulkAll elems + uptoBulkAll spare + 1
  | .agg parts => uptoBulkAll parts + 1
  | .iface _ d => uptoBulk d + 1
  | .map entries => uptoBulkEntries entries + 1
  | .held _ => 1
def uptoBulkAll {H : Type} : List (DataW H) → Nat
  | [] => 0
  | d :: r => uptoBulk d + uptoBulkAll r
def uptoBulkEntries {H : Type} : List (Lit × DataW H) → Nat
  | [] => 0
  | x :: r => uptoBulkEntry x + uptoBulkEntries r
def uptoBulkEntry {H : Type} : Lit × DataW H → Nat
  | (.string bytes, d) => bytes.length + uptoBulk d + 1
  | (_, d) => uptoBulk d + 1
 end
def uptoSmall : (H : Type) → List (DataW H) → Bool := fun _ ds => decide (uptoBulkAll ds ≤ 1048576)
def OpenSpec.upto (s : _root_.Go.ChangeSpec) : _root_.Go.OpenSpec := { _root_.Go.OpenSpec.ofChange s with cond := some uptoSmall }

/-- 'arbiterlaw03.FlagsSound', WHERE WHAT IT READS IS OF BULK AT MOST 1048576: true; the input reads as it did. -/
def flagsSoundUptoRow : OpenClaim := { program := "ytmkjeojamhfgfaa", sum := "f1b7918337e599840d8360d2143d6b637dfff4d0d35dcf7ed77c9c01e4321f0e", func := "arbiter/arbiterlaw03.FlagsSound", spec := "flagsSound", inPlace := ["internal/abi.NoEscape", "internal/bytealg.MakeNoZero"], apart := false, narrowed := true }
def FlagsSoundUptoSaid : Prop := flagsSoundUptoRow.holds Try.pinned (OpenSpec.upto flagsSoundSpec)

/-- 'arbiterlaw03.FlagsPlays', WHERE WHAT IT READS IS OF BULK AT MOST 1048576: true; the input reads as it did. -/
def flagsPlaysUptoRow : OpenClaim := { program := "ytmkjeojamhfgfaa", sum := "f1b7918337e599840d8360d2143d6b637dfff4d0d35dcf7ed77c9c01e4321f0e", func := "arbiter/arbiterlaw03.FlagsPlays", spec := "flagsPlays", inPlace := ["internal/abi.NoEscape", "internal/bytealg.MakeNoZero"], apart := false, narrowed := true }
def FlagsPlaysUptoSaid : Prop := flagsPlaysUptoRow.holds Try.pinned (OpenSpec.upto flagsPlaysSpec)

end Rows
end Go.Proofs.Ytmkjeojamhfgfaa
