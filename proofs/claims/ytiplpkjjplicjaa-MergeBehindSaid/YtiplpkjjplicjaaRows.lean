/-
  No cell of these rows narrows 'for every input' (looked for: loops, veiled, ifaces, maps, wideKeys, modest, calm, conditions, laid).
  DERIVED. THE GIVEN ROWS OF THIS SEAT. 6 by the template 'for every input the law returns true; each argument reads behind the call as it read before'; 0 by the template 'total and deterministic' (their statements: YtiplpkjjplicjaaTotals.lean).
  GIVEN WITH THE SEED: the statements are not yours to turn. If you find one false, say at which input.
  Laid BY PROGRAM, IN A SANDBOX (cutbox-rows.mjs): the forced cells as the released guide's own fill.sh prints them over the translation 37d0456f1aa515c4… (all of the seat's roots in one cut). By AI agents, Wed Nov 11 2026. No macro, syntax, notation, axiom, sorry.
-/
import Derived.Test.YtiplpkjjplicjaaChecked
import GoSem.Claim
import GoSem.ClaimJoined
import GoSem.ClaimMapViews
import Derived.JoinedTies
import Derived.KernelRfl
namespace Go.Proofs.Ytiplpkjjplicjaa
/- THE CELL 'sum', in the pinned program and in every row, IS THE sha256 OF THE DUMP (.gsa) THAT YtiplpkjjplicjaaProg.lean LOADS. Nothing in Lean hashes anything: it is a label: what it is worth is what the hold of that sum in a sandbox is worth. -/
noncomputable def Try.pinned : Pinned := { name := "ytiplpkjjplicjaa", sum := "37d0456f1aa515c408426aefd61cbc068d59ccb9dad7c60094674e5bd6205de9", checked := Try.checked }
namespace Rows
def none {H : Type} : Left H := { results := [], args := [] }

/-- 'haymowlaw07.MergeBehind': WHATEVER THE INPUT: true; the input reads as it did. -/
def mergeBehindSpec : ChangeSpec := { name := "mergeBehind", fn := fun _ => fun
  | [d] => { results := [.lit (.bool true)], args := [d] }
  | _ => none }
def mergeBehindRow : OpenClaim := { program := "ytiplpkjjplicjaa", sum := "37d0456f1aa515c408426aefd61cbc068d59ccb9dad7c60094674e5bd6205de9", func := "haymow/haymowlaw07.MergeBehind", spec := "mergeBehind", unfollowed := true, recurses := true, apart := false }
def MergeBehindSaid : Prop := mergeBehindRow.holds Try.pinned (OpenSpec.ofChange mergeBehindSpec)

/-- ITS FALSE NEIGHBOUR: 'it returns false'. Refute it at one input. -/
def mergeBehindWrong : ChangeSpec := { name := "mergeBehind", fn := fun _ => fun
  | [d] => { results := [.lit (.bool false)], args := [d] }
  | _ => none }
def MergeBehindWrongFalsely : Prop := mergeBehindRow.holds Try.pinned (OpenSpec.ofChange mergeBehindWrong)

/-- 'haymowlaw07.MergeFirst': WHATEVER THE INPUT: true; the input reads as it did. -/
def mergeFirstSpec : ChangeSpec := { name := "mergeFirst", fn := fun _ => fun
  | [d] => { results := [.lit (.bool true)], args := [d] }
  | _ => none }
def mergeFirstRow : OpenClaim := { program := "ytiplpkjjplicjaa", sum := "37d0456f1aa515c408426aefd61cbc068d59ccb9dad7c60094674e5bd6205de9", func := "haymow/haymowlaw07.MergeFirst", spec := "mergeFirst", unfollowed := true, recurses := true, apart := false }
def MergeFirstSaid : Prop := mergeFirstRow.holds Try.pinned (OpenSpec.ofChange mergeFirstSpec)

/-- ITS FALSE NEIGHBOUR: 'it returns false'. Refute it at one input. -/
def mergeFirstWrong : ChangeSpec := { name := "mergeFirst", fn := fun _ => fun
  | [d] => { results := [.lit (.bool false)], args := [d] }
  | _ => none }
def MergeFirstWrongFalsely : Prop := mergeFirstRow.holds Try.pinned (OpenSpec.ofChange mergeFirstWrong)

/-- 'haymowlaw07.MergeEmpty': WHATEVER THE INPUT: true; the input reads as it did. -/
def mergeEmptySpec : ChangeSpec := { name := "mergeEmpty", fn := fun _ => fun
  | [d1, d2] => { results := [.lit (.bool true)], args := [d1, d2] }
  | _ => none }
def mergeEmptyRow : OpenClaim := { program := "ytiplpkjjplicjaa", sum := "37d0456f1aa515c408426aefd61cbc068d59ccb9dad7c60094674e5bd6205de9", func := "haymow/haymowlaw07.MergeEmpty", spec := "mergeEmpty", unfollowed := true, recurses := true, apart := false }
def MergeEmptySaid : Prop := mergeEmptyRow.holds Try.pinned (OpenSpec.ofChange mergeEmptySpec)

/-- ITS FALSE NEIGHBOUR: 'it returns false'. Refute it at one input. -/
def mergeEmptyWrong : ChangeSpec := { name := "mergeEmpty", fn := fun _ => fun
  | [d1, d2] => { results := [.lit (.bool false)], args := [d1, d2] }
  | _ => none }
def MergeEmptyWrongFalsely : Prop := mergeEmptyRow.holds Try.pinned (OpenSpec.ofChange mergeEmptyWrong)

/-- 'haymowlaw07.MergeJoins': WHATEVER THE INPUT: true; the input reads as it did. -/
def mergeJoinsSpec : ChangeSpec := { name := "mergeJoins", fn := fun _ => fun
  | [d1, d2] => { results := [.lit (.bool true)], args := [d1, d2] }
  | _ => none }
def mergeJoinsRow : OpenClaim := { program := "ytiplpkjjplicjaa", sum := "37d0456f1aa515c408426aefd61cbc068d59ccb9dad7c60094674e5bd6205de9", func := "haymow/haymowlaw07.MergeJoins", spec := "mergeJoins", unfollowed := true, recurses := true, apart := false }
def MergeJoinsSaid : Prop := mergeJoinsRow.holds Try.pinned (OpenSpec.ofChange mergeJoinsSpec)

/-- ITS FALSE NEIGHBOUR: 'it returns false'. Refute it at one input. -/
def mergeJoinsWrong : ChangeSpec := { name := "mergeJoins", fn := fun _ => fun
  | [d1, d2] => { results := [.lit (.bool false)], args := [d1, d2] }
  | _ => none }
def MergeJoinsWrongFalsely : Prop := mergeJoinsRow.holds Try.pinned (OpenSpec.ofChange mergeJoinsWrong)

/-- 'haymowlaw07.MergeTells': WHATEVER THE INPUT: true; the input reads as it did. -/
def mergeTellsSpec : ChangeSpec := { name := "mergeTells", fn := fun _ => fun
  | [d] => { results := [.lit (.bool true)], args := [d] }
  | _ => none }
def mergeTellsRow : OpenClaim := { program := "ytiplpkjjplicjaa", sum := "37d0456f1aa515c408426aefd61cbc068d59ccb9dad7c60094674e5bd6205de9", func := "haymow/haymowlaw07.MergeTells", spec := "mergeTells", unfollowed := true, recurses := true, apart := false }
def MergeTellsSaid : Prop := mergeTellsRow.holds Try.pinned (OpenSpec.ofChange mergeTellsSpec)

/-- ITS FALSE NEIGHBOUR: 'it returns false'. Refute it at one input. -/
def mergeTellsWrong : ChangeSpec := { name := "mergeTells", fn := fun _ => fun
  | [d] => { results := [.lit (.bool false)], args := [d] }
  | _ => none }
def MergeTellsWrongFalsely : Prop := mergeTellsRow.holds Try.pinned (OpenSpec.ofChange mergeTellsWrong)

/-- 'haymowlaw07.MergeNone': WHATEVER THE INPUT: true; the input reads as it did. -/
def mergeNoneSpec : ChangeSpec := { name := "mergeNone", fn := fun _ => fun
  | [d] => { results := [.lit (.bool true)], args := [d] }
  | _ => none }
def mergeNoneRow : OpenClaim := { program := "ytiplpkjjplicjaa", sum := "37d0456f1aa515c408426aefd61cbc068d59ccb9dad7c60094674e5bd6205de9", func := "haymow/haymowlaw07.MergeNone", spec := "mergeNone", unfollowed := true, recurses := true, apart := false }
def MergeNoneSaid : Prop := mergeNoneRow.holds Try.pinned (OpenSpec.ofChange mergeNoneSpec)

/-- ITS FALSE NEIGHBOUR: 'it returns false'. Refute it at one input. -/
def mergeNoneWrong : ChangeSpec := { name := "mergeNone", fn := fun _ => fun
  | [d] => { results := [.lit (.bool false)], args := [d] }
  | _ => none }
def MergeNoneWrongFalsely : Prop := mergeNoneRow.holds Try.pinned (OpenSpec.ofChange mergeNoneWrong)

/- THE SECOND FORM. 'bulk': how many values and letters a reading holds, each counted each time it is reached (what is shared counts as often as it is met; a slice's spare places count too). A statement '..UptoSaid' is the law's where the arguments, and the package variables that the reading takes, are together of bulk at most 1048576: NARROWER than '..Said'. Prove '..Said' where nothing that the law and all that it calls make is longer than what came in: it says more and counts as full. Else prove '..UptoSaid'. A law counts once. -/
mutual
def uptoBulk {H : Type} : DataW H → Nat
  | .lit (.string bytes) => bytes.length + 1
  | .lit _ => 1
  | .nil => 1
  | .ptr d => uptoBulk d + 1
  | .slice elems spare => uptoBulkAll elems + uptoBulkAll spare + 1
  | .agg parts => uptoBulkAll parts + 1
  | .iface _ d => uptoBulk d + 1
  | .map entries => uptoBulkEntries entries + 1
  | .held _ => 1
def uptoBulkAll {H : Type} : List (DataW H) → Nat
  | [] => 0
  | d :: r => uptoBulk d + uptoBulkAll r
def uptoBulkEntries {H : Type} : List (Lit × DataW H) → Nat
  | [] => 0
  | x :: r => uptoBulkEntry x + uptoBulkEntries r
def uptoBulkEntry {H : Type} : Lit × DataW H → Nat
  | (.string bytes, d) => bytes.length + uptoBulk d + 1
  | (_, d) => uptoBulk d + 1
 end
def uptoSmall : (H : Type) → List (DataW H) → Bool := fun _ ds => decide (uptoBulkAll ds ≤ 1048576)
def OpenSpec.upto (s : _root_.Go.ChangeSpec) : _root_.Go.OpenSpec := { _root_.Go.OpenSpec.ofChange s with cond := some uptoSmall }

/-- 'haymowlaw07.MergeBehind', WHERE WHAT IT READS IS OF BULK AT MOST 1048576: true; the input reads as it did. -/
def mergeBehindUptoRow : OpenClaim := { program := "ytiplpkjjplicjaa", sum := "37d0456f1aa515c408426aefd61cbc068d59ccb9dad7c60094674e5bd6205de9", func := "haymow/haymowlaw07.MergeBehind", spec := "mergeBehind", unfollowed := true, recurses := true, apart := false, narrowed := true }
def MergeBehindUptoSaid : Prop := mergeBehindUptoRow.holds Try.pinned (OpenSpec.upto mergeBehindSpec)

/-- 'haymowlaw07.MergeFirst', WHERE WHAT IT READS IS OF BULK AT MOST 1048576: true; the input reads as it did. -/
def mergeFirstUptoRow : OpenClaim := { program := "ytiplpkjjplicjaa", sum := "37d0456f1aa515c408426aefd61cbc068d59ccb9dad7c60094674e5bd6205de9", func := "haymow/haymowlaw07.MergeFirst", spec := "mergeFirst", unfollowed := true, recurses := true, apart := false, narrowed := true }
def MergeFirstUptoSaid : Prop := mergeFirstUptoRow.holds Try.pinned (OpenSpec.upto mergeFirstSpec)

/-- 'haymowlaw07.MergeEmpty', WHERE WHAT IT READS IS OF BULK AT MOST 1048576: true; the input reads as it did. -/
def mergeEmptyUptoRow : OpenClaim := { program := "ytiplpkjjplicjaa", sum := "37d0456f1aa515c408426aefd61cbc068d59ccb9dad7c60094674e5bd6205de9", func := "haymow/haymowlaw07.MergeEmpty", spec := "mergeEmpty", unfollowed := true, recurses := true, apart := false, narrowed := true }
def MergeEmptyUptoSaid : Prop := mergeEmptyUptoRow.holds Try.pinned (OpenSpec.upto mergeEmptySpec)

/-- 'haymowlaw07.MergeJoins', WHERE WHAT IT READS IS OF BULK AT MOST 1048576: true; the input reads as it did. -/
def mergeJoinsUptoRow : OpenClaim := { program := "ytiplpkjjplicjaa", sum := "37d0456f1aa515c408426aefd61cbc068d59ccb9dad7c60094674e5bd6205de9", func := "haymow/haymowlaw07.MergeJoins", spec := "mergeJoins", unfollowed := true, recurses := true, apart := false, narrowed := true }
def MergeJoinsUptoSaid : Prop := mergeJoinsUptoRow.holds Try.pinned (OpenSpec.upto mergeJoinsSpec)

/-- 'haymowlaw07.MergeTells', WHERE WHAT IT READS IS OF BULK AT MOST 1048576: true; the input reads as it did. -/
def mergeTellsUptoRow : OpenClaim := { program := "ytiplpkjjplicjaa", sum := "37d0456f1aa515c408426aefd61cbc068d59ccb9dad7c60094674e5bd6205de9", func := "haymow/haymowlaw07.MergeTells", spec := "mergeTells", unfollowed := true, recurses := true, apart := false, narrowed := true }
def MergeTellsUptoSaid : Prop := mergeTellsUptoRow.holds Try.pinned (OpenSpec.upto mergeTellsSpec)

/-- 'haymowlaw07.MergeNone', WHERE WHAT IT READS IS OF BULK AT MOST 1048576: true; the input reads as it did. -/
def mergeNoneUptoRow : OpenClaim := { program := "ytiplpkjjplicjaa", sum := "37d0456f1aa515c408426aefd61cbc068d59ccb9dad7c60094674e5bd6205de9", func := "haymow/haymowlaw07.MergeNone", spec := "mergeNone", unfollowed := true, recurses := true, apart := false, narrowed := true }
def MergeNoneUptoSaid : Prop := mergeNoneUptoRow.holds Try.pinned (OpenSpec.upto mergeNoneSpec)

end Rows
end Go.Proofs.Ytiplpkjjplicjaa
