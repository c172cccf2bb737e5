/-
  No cell of these rows narrows 'for every input' (looked for: loops, veiled, ifaces, maps, wideKeys, modest, calm, conditions, laid).
  DERIVED. THE GIVEN ROWS OF THIS SEAT. 4 by the template 'for every input the law returns true; each argument reads behind the call as it read before'; 0 by the template 'total and deterministic' (their statements: YtjooockdiolalaaTotals.lean).
  GIVEN WITH THE SEED: the statements are not yours to turn. If you find one false, say at which input.
  Laid BY PROGRAM, IN A SANDBOX (cutbox-rows.mjs): the forced cells as the released guide's own fill.sh prints them over the translation 6832f1da19f97a64… (all of the seat's roots in one cut). By AI agents, Wed Nov 11 2026. No macro, syntax, notation, axiom, sorry.
-/
import Derived.Test.YtjooockdiolalaaChecked
import GoSem.Claim
import GoSem.ClaimJoined
import GoSem.ClaimMapViews
import Derived.JoinedTies
import Derived.KernelRfl
namespace Go.Proofs.Ytjooockdiolalaa
/- THE CELL 'sum', in the pinned program and in every row, IS THE sha256 OF THE DUMP (.gsa) THAT YtjooockdiolalaaProg.lean LOADS. Nothing in Lean hashes anything: it is a label: what it is worth is what the hold of that sum in a sandbox is worth. -/
noncomputable def Try.pinned : Pinned := { name := "ytjooockdiolalaa", sum := "6832f1da19f97a641ace0e289e06a7715b32c801626a744994bb5b8e4657aef0", checked := Try.checked }
namespace Rows
def none {H : Type} : Left H := { results := [], args := [] }

/-- 'dogwatchlaw18.DebounceTells': WHATEVER THE INPUT: true; the input reads as it did. -/
def debounceTellsSpec : ChangeSpec := { name := "debounceTells", fn := fun _ => fun
  | [d1, d2, d3] => { results := [.lit (.bool true)], args := [d1, d2, d3] }
  | _ => none }
def debounceTellsRow : OpenClaim := { program := "ytjooockdiolalaa", sum := "6832f1da19f97a641ace0e289e06a7715b32c801626a744994bb5b8e4657aef0", func := "dogwatch/dogwatchlaw18.DebounceTells", spec := "debounceTells", unfollowed := true, recurses := true, apart := false }
def DebounceTellsSaid : Prop := debounceTellsRow.holds Try.pinned (OpenSpec.ofChange debounceTellsSpec)

/-- ITS FALSE NEIGHBOUR: 'it returns false'. Refute it at one input. -/
def debounceTellsWrong : ChangeSpec := { name := "debounceTells", fn := fun _ => fun
  | [d1, d2, d3] => { results := [.lit (.bool false)], args := [d1, d2, d3] }
  | _ => none }
def DebounceTellsWrongFalsely : Prop := debounceTellsRow.holds Try.pinned (OpenSpec.ofChange debounceTellsWrong)

/-- 'dogwatchlaw18.DebounceAgrees': WHATEVER THE INPUT: true; the input reads as it did. -/
def debounceAgreesSpec : ChangeSpec := { name := "debounceAgrees", fn := fun _ => fun
  | [d] => { results := [.lit (.bool true)], args := [d] }
  | _ => none }
def debounceAgreesRow : OpenClaim := { program := "ytjooockdiolalaa", sum := "6832f1da19f97a641ace0e289e06a7715b32c801626a744994bb5b8e4657aef0", func := "dogwatch/dogwatchlaw18.DebounceAgrees", spec := "debounceAgrees", unfollowed := true, recurses := true, apart := false }
def DebounceAgreesSaid : Prop := debounceAgreesRow.holds Try.pinned (OpenSpec.ofChange debounceAgreesSpec)

/-- ITS FALSE NEIGHBOUR: 'it returns false'. Refute it at one input. -/
def debounceAgreesWrong : ChangeSpec := { name := "debounceAgrees", fn := fun _ => fun
  | [d] => { results := [.lit (.bool false)], args := [d] }
  | _ => none }
def DebounceAgreesWrongFalsely : Prop := debounceAgreesRow.holds Try.pinned (OpenSpec.ofChange debounceAgreesWrong)

/-- 'dogwatchlaw18.DebounceThree': WHATEVER THE INPUT: true; the input reads as it did. -/
def debounceThreeSpec : ChangeSpec := { name := "debounceThree", fn := fun _ => fun
  | [d1, d2, d3] => { results := [.lit (.bool true)], args := [d1, d2, d3] }
  | _ => none }
def debounceThreeRow : OpenClaim := { program := "ytjooockdiolalaa", sum := "6832f1da19f97a641ace0e289e06a7715b32c801626a744994bb5b8e4657aef0", func := "dogwatch/dogwatchlaw18.DebounceThree", spec := "debounceThree", unfollowed := true, recurses := true, apart := false }
def DebounceThreeSaid : Prop := debounceThreeRow.holds Try.pinned (OpenSpec.ofChange debounceThreeSpec)

/-- ITS FALSE NEIGHBOUR: 'it returns false'. Refute it at one input. -/
def debounceThreeWrong : ChangeSpec := { name := "debounceThree", fn := fun _ => fun
  | [d1, d2, d3] => { results := [.lit (.bool false)], args := [d1, d2, d3] }
  | _ => none }
def DebounceThreeWrongFalsely : Prop := debounceThreeRow.holds Try.pinned (OpenSpec.ofChange debounceThreeWrong)

/-- 'dogwatchlaw18.DebounceStays': WHATEVER THE INPUT: true; the input reads as it did. -/
def debounceStaysSpec : ChangeSpec := { name := "debounceStays", fn := fun _ => fun
  | [d1, d2] => { results := [.lit (.bool true)], args := [d1, d2] }
  | _ => none }
def debounceStaysRow : OpenClaim := { program := "ytjooockdiolalaa", sum := "6832f1da19f97a641ace0e289e06a7715b32c801626a744994bb5b8e4657aef0", func := "dogwatch/dogwatchlaw18.DebounceStays", spec := "debounceStays", unfollowed := true, recurses := true, apart := false }
def DebounceStaysSaid : Prop := debounceStaysRow.holds Try.pinned (OpenSpec.ofChange debounceStaysSpec)

/-- ITS FALSE NEIGHBOUR: 'it returns false'. Refute it at one input. -/
def debounceStaysWrong : ChangeSpec := { name := "debounceStays", fn := fun _ => fun
  | [d1, d2] => { results := [.lit (.bool false)], args := [d1, d2] }
  | _ => none }
def DebounceStaysWrongFalsely : Prop := debounceStaysRow.holds Try.pinned (OpenSpec.ofChange debounceStaysWrong)

/- THE SECOND FORM. 'bulk': how many values and letters a reading holds, each counted each time it is reached (what is shared counts as often as it is met; a slice's spare places count too). A statement '..UptoSaid' is the law's where the arguments, and the package variables that the reading takes, are together of bulk at most 1048576: NARROWER than '..Said'. Prove '..Said' where nothing that the law and all that it calls make is longer than what came in: it says more and counts as full. Else prove '..UptoSaid'. A law counts once. -/
mutual
def uptoBulk {H : Type} : DataW H → Nat
  | .lit (.string bytes) => bytes.length + 1
  | .lit _ => 1
  | .nil => 1
  | .ptr d => uptoBulk d + 1
  | .slice elems spare => uptoBulkAll elems + uptoBulkAll spare + 1
  | .agg parts => uptoBulkAll parts + 1
  | .iface _ d => uptoBulk d + 1
  | .map entries => uptoBulkEntries entries + 1
  | .held _ => 1
def uptoBulkAll {H : Type} : List (DataW H) → Nat
  | [] => 0
  | d :: r => uptoBulk d + uptoBulkAll r
def uptoBulkEntries {H : Type} : List (Lit × DataW H) → Nat
  | [] => 0
  | x :: r => uptoBulkEntry x + uptoBulkEntries r
def uptoBulkEntry {H : Type} : Lit × DataW H → Nat
  | (.string bytes, d) => bytes.length + uptoBulk d + 1
  | (_, d) => uptoBulk d + 1
 end
def uptoSmall : (H : Type) → List (DataW H) → Bool := fun _ ds => decide (uptoBulkAll ds ≤ 1048576)
def OpenSpec.upto (s : _root_.Go.ChangeSpec) : _root_.Go.OpenSpec := { _root_.Go.OpenSpec.ofChange s with cond := some uptoSmall }

/-- 'dogwatchlaw18.DebounceTells', WHERE WHAT IT READS IS OF BULK AT MOST 1048576: true; the input reads as it did. -/
def debounceTellsUptoRow : OpenClaim := { program := "ytjooockdiolalaa", sum := "6832f1da19f97a641ace0e289e06a7715b32c801626a744994bb5b8e4657aef0", func := "dogwatch/dogwatchlaw18.DebounceTells", spec := "debounceTells", unfollowed := true, recurses := true, apart := false, narrowed := true }
def DebounceTellsUptoSaid : Prop := debounceTellsUptoRow.holds Try.pinned (OpenSpec.upto debounceTellsSpec)

/-- 'dogwatchlaw18.DebounceAgrees', WHERE WHAT IT READS IS OF BULK AT MOST 1048576: true; the input reads as it did. -/
def debounceAgreesUptoRow : OpenClaim := { program := "ytjooockdiolalaa", sum := "6832f1da19f97a641ace0e289e06a7715b32c801626a744994bb5b8e4657aef0", func := "dogwatch/dogwatchlaw18.DebounceAgrees", spec := "debounceAgrees", unfollowed := true, recurses := true, apart := false, narrowed := true }
def DebounceAgreesUptoSaid : Prop := debounceAgreesUptoRow.holds Try.pinned (OpenSpec.upto debounceAgreesSpec)

/-- 'dogwatchlaw18.DebounceThree', WHERE WHAT IT READS IS OF BULK AT MOST 1048576: true; the input reads as it did. -/
def debounceThreeUptoRow : OpenClaim := { program := "ytjooockdiolalaa", sum := "6832f1da19f97a641ace0e289e06a7715b32c801626a744994bb5b8e4657aef0", func := "dogwatch/dogwatchlaw18.DebounceThree", spec := "debounceThree", unfollowed := true, recurses := true, apart := false, narrowed := true }
def DebounceThreeUptoSaid : Prop := debounceThreeUptoRow.holds Try.pinned (OpenSpec.upto debounceThreeSpec)

/-- 'dogwatchlaw18.DebounceStays', WHERE WHAT IT READS IS OF BULK AT MOST 1048576: true; the input reads as it did. -/
def debounceStaysUptoRow : OpenClaim := { program := "ytjooockdiolalaa", sum := "6832f1da19f97a641ace0e289e06a7715b32c801626a744994bb5b8e4657aef0", func := "dogwatch/dogwatchlaw18.DebounceStays", spec := "debounceStays", unfollowed := true, recurses := true, apart := false, narrowed := true }
def DebounceStaysUptoSaid : Prop := debounceStaysUptoRow.holds Try.pinned (OpenSpec.upto debounceStaysSpec)

end Rows
end Go.Proofs.Ytjooockdiolalaa
