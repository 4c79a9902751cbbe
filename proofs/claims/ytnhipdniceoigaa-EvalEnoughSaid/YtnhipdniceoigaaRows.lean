/-
  No cell of these rows narrows 'for every input' (looked for: loops, veiled, ifaces, maps, wideKeys, modest, calm, conditions, laid).
  DERIVED. THE GIVEN ROWS OF THIS SEAT. 8 by the template 'for every input the law returns true; each argument reads behind the call as it read before'; 0 by the template 'total and deterministic' (their statements: YtnhipdniceoigaaTotals.lean).
  GIVEN WITH THE SEED: the statements are not yours to turn. If you find one false, say at which input.
  Laid BY PROGRAM, IN A SANDBOX (cutbox-rows.mjs): the forced cells as the released guide's own fill.sh prints them over the translation 1517c795e99c75bc… (all of the seat's roots in one cut). By AI agents, Wed Nov 11 2026. No macro, syntax, notation, axiom, sorry.
-/
import Derived.Test.YtnhipdniceoigaaChecked
import GoSem.Claim
import GoSem.ClaimJoined
import GoSem.ClaimMapViews
import Derived.JoinedTies
import Derived.KernelRfl
namespace Go.Proofs.Ytnhipdniceoigaa
/- THE CELL 'sum', in the pinned program and in every row, IS THE sha256 OF THE DUMP (.gsa) THAT YtnhipdniceoigaaProg.lean LOADS. Nothing in Lean hashes anything: it is a label: what it is worth is what the hold of that sum in a sandbox is worth. -/
noncomputable def Try.pinned : Pinned := { name := "ytnhipdniceoigaa", sum := "1517c795e99c75bc683557ec37e802baf1dda45351285de4613abb3c7dde701f", checked := Try.checked }
namespace Rows
def none {H : Type} : Left H := { results := [], args := [] }

/-- 'haymowlaw06.EvalTells': WHATEVER THE INPUT: true; the input reads as it did. -/
def evalTellsSpec : ChangeSpec := { name := "evalTells", fn := fun _ => fun
  | [d1, d2] => { results := [.lit (.bool true)], args := [d1, d2] }
  | _ => none }
def evalTellsRow : OpenClaim := { program := "ytnhipdniceoigaa", sum := "1517c795e99c75bc683557ec37e802baf1dda45351285de4613abb3c7dde701f", func := "haymow/haymowlaw06.EvalTells", spec := "evalTells", unfollowed := true, recurses := true, apart := false }
def EvalTellsSaid : Prop := evalTellsRow.holds Try.pinned (OpenSpec.ofChange evalTellsSpec)

/-- ITS FALSE NEIGHBOUR: 'it returns false'. Refute it at one input. -/
def evalTellsWrong : ChangeSpec := { name := "evalTells", fn := fun _ => fun
  | [d1, d2] => { results := [.lit (.bool false)], args := [d1, d2] }
  | _ => none }
def EvalTellsWrongFalsely : Prop := evalTellsRow.holds Try.pinned (OpenSpec.ofChange evalTellsWrong)

/-- 'haymowlaw06.EvalBounds': WHATEVER THE INPUT: true; the input reads as it did. -/
def evalBoundsSpec : ChangeSpec := { name := "evalBounds", fn := fun _ => fun
  | [d] => { results := [.lit (.bool true)], args := [d] }
  | _ => none }
def evalBoundsRow : OpenClaim := { program := "ytnhipdniceoigaa", sum := "1517c795e99c75bc683557ec37e802baf1dda45351285de4613abb3c7dde701f", func := "haymow/haymowlaw06.EvalBounds", spec := "evalBounds", unfollowed := true, recurses := true, apart := false }
def EvalBoundsSaid : Prop := evalBoundsRow.holds Try.pinned (OpenSpec.ofChange evalBoundsSpec)

/-- ITS FALSE NEIGHBOUR: 'it returns false'. Refute it at one input. -/
def evalBoundsWrong : ChangeSpec := { name := "evalBounds", fn := fun _ => fun
  | [d] => { results := [.lit (.bool false)], args := [d] }
  | _ => none }
def EvalBoundsWrongFalsely : Prop := evalBoundsRow.holds Try.pinned (OpenSpec.ofChange evalBoundsWrong)

/-- 'haymowlaw06.EvalEnough': WHATEVER THE INPUT: true; the input reads as it did. -/
def evalEnoughSpec : ChangeSpec := { name := "evalEnough", fn := fun _ => fun
  | [d1, d2] => { results := [.lit (.bool true)], args := [d1, d2] }
  | _ => none }
def evalEnoughRow : OpenClaim := { program := "ytnhipdniceoigaa", sum := "1517c795e99c75bc683557ec37e802baf1dda45351285de4613abb3c7dde701f", func := "haymow/haymowlaw06.EvalEnough", spec := "evalEnough", unfollowed := true, recurses := true, apart := false }
def EvalEnoughSaid : Prop := evalEnoughRow.holds Try.pinned (OpenSpec.ofChange evalEnoughSpec)

/-- ITS FALSE NEIGHBOUR: 'it returns false'. Refute it at one input. -/
def evalEnoughWrong : ChangeSpec := { name := "evalEnough", fn := fun _ => fun
  | [d1, d2] => { results := [.lit (.bool false)], args := [d1, d2] }
  | _ => none }
def EvalEnoughWrongFalsely : Prop := evalEnoughRow.holds Try.pinned (OpenSpec.ofChange evalEnoughWrong)

/-- 'haymowlaw06.EvalSums': WHATEVER THE INPUT: true; the input reads as it did. -/
def evalSumsSpec : ChangeSpec := { name := "evalSums", fn := fun _ => fun
  | [d1, d2, d3] => { results := [.lit (.bool true)], args := [d1, d2, d3] }
  | _ => none }
def evalSumsRow : OpenClaim := { program := "ytnhipdniceoigaa", sum := "1517c795e99c75bc683557ec37e802baf1dda45351285de4613abb3c7dde701f", func := "haymow/haymowlaw06.EvalSums", spec := "evalSums", unfollowed := true, recurses := true, apart := false }
def EvalSumsSaid : Prop := evalSumsRow.holds Try.pinned (OpenSpec.ofChange evalSumsSpec)

/-- ITS FALSE NEIGHBOUR: 'it returns false'. Refute it at one input. -/
def evalSumsWrong : ChangeSpec := { name := "evalSums", fn := fun _ => fun
  | [d1, d2, d3] => { results := [.lit (.bool false)], args := [d1, d2, d3] }
  | _ => none }
def EvalSumsWrongFalsely : Prop := evalSumsRow.holds Try.pinned (OpenSpec.ofChange evalSumsWrong)

/-- 'haymowlaw06.EvalLoops': WHATEVER THE INPUT: true; the input reads as it did. -/
def evalLoopsSpec : ChangeSpec := { name := "evalLoops", fn := fun _ => fun
  | [d1, d2] => { results := [.lit (.bool true)], args := [d1, d2] }
  | _ => none }
def evalLoopsRow : OpenClaim := { program := "ytnhipdniceoigaa", sum := "1517c795e99c75bc683557ec37e802baf1dda45351285de4613abb3c7dde701f", func := "haymow/haymowlaw06.EvalLoops", spec := "evalLoops", unfollowed := true, recurses := true, apart := false }
def EvalLoopsSaid : Prop := evalLoopsRow.holds Try.pinned (OpenSpec.ofChange evalLoopsSpec)

/-- ITS FALSE NEIGHBOUR: 'it returns false'. Refute it at one input. -/
def evalLoopsWrong : ChangeSpec := { name := "evalLoops", fn := fun _ => fun
  | [d1, d2] => { results := [.lit (.bool false)], args := [d1, d2] }
  | _ => none }
def EvalLoopsWrongFalsely : Prop := evalLoopsRow.holds Try.pinned (OpenSpec.ofChange evalLoopsWrong)

/-- 'haymowlaw06.EvalDeep': WHATEVER THE INPUT: true; the input reads as it did. -/
def evalDeepSpec : ChangeSpec := { name := "evalDeep", fn := fun _ => fun
  | [d1, d2] => { results := [.lit (.bool true)], args := [d1, d2] }
  | _ => none }
def evalDeepRow : OpenClaim := { program := "ytnhipdniceoigaa", sum := "1517c795e99c75bc683557ec37e802baf1dda45351285de4613abb3c7dde701f", func := "haymow/haymowlaw06.EvalDeep", spec := "evalDeep", unfollowed := true, recurses := true, apart := false }
def EvalDeepSaid : Prop := evalDeepRow.holds Try.pinned (OpenSpec.ofChange evalDeepSpec)

/-- ITS FALSE NEIGHBOUR: 'it returns false'. Refute it at one input. -/
def evalDeepWrong : ChangeSpec := { name := "evalDeep", fn := fun _ => fun
  | [d1, d2] => { results := [.lit (.bool false)], args := [d1, d2] }
  | _ => none }
def EvalDeepWrongFalsely : Prop := evalDeepRow.holds Try.pinned (OpenSpec.ofChange evalDeepWrong)

/-- 'haymowlaw06.EvalReckons': WHATEVER THE INPUT: true; the input reads as it did. -/
def evalReckonsSpec : ChangeSpec := { name := "evalReckons", fn := fun _ => fun
  | [d1, d2] => { results := [.lit (.bool true)], args := [d1, d2] }
  | _ => none }
def evalReckonsRow : OpenClaim := { program := "ytnhipdniceoigaa", sum := "1517c795e99c75bc683557ec37e802baf1dda45351285de4613abb3c7dde701f", func := "haymow/haymowlaw06.EvalReckons", spec := "evalReckons", unfollowed := true, recurses := true, apart := false }
def EvalReckonsSaid : Prop := evalReckonsRow.holds Try.pinned (OpenSpec.ofChange evalReckonsSpec)

/-- ITS FALSE NEIGHBOUR: 'it returns false'. Refute it at one input. -/
def evalReckonsWrong : ChangeSpec := { name := "evalReckons", fn := fun _ => fun
  | [d1, d2] => { results := [.lit (.bool false)], args := [d1, d2] }
  | _ => none }
def EvalReckonsWrongFalsely : Prop := evalReckonsRow.holds Try.pinned (OpenSpec.ofChange evalReckonsWrong)

/-- 'haymowlaw06.EvalTouches': WHATEVER THE INPUT: true; the input reads as it did. -/
def evalTouchesSpec : ChangeSpec := { name := "evalTouches", fn := fun _ => fun
  | [d1, d2, d3] => { results := [.lit (.bool true)], args := [d1, d2, d3] }
  | _ => none }
def evalTouchesRow : OpenClaim := { program := "ytnhipdniceoigaa", sum := "1517c795e99c75bc683557ec37e802baf1dda45351285de4613abb3c7dde701f", func := "haymow/haymowlaw06.EvalTouches", spec := "evalTouches", unfollowed := true, recurses := true, apart := false }
def EvalTouchesSaid : Prop := evalTouchesRow.holds Try.pinned (OpenSpec.ofChange evalTouchesSpec)

/-- ITS FALSE NEIGHBOUR: 'it returns false'. Refute it at one input. -/
def evalTouchesWrong : ChangeSpec := { name := "evalTouches", fn := fun _ => fun
  | [d1, d2, d3] => { results := [.lit (.bool false)], args := [d1, d2, d3] }
  | _ => none }
def EvalTouchesWrongFalsely : Prop := evalTouchesRow.holds Try.pinned (OpenSpec.ofChange evalTouchesWrong)

/- THE SECOND FORM. 'bulk': how many values and letters a reading holds, each counted each time it is reached (what is shared counts as often as it is met; a slice's spare places count too). A statement '..UptoSaid' is the law's where the arguments, and the package variables that the reading takes, are together of bulk at most 1048576: NARROWER than '..Said'. Prove '..Said' where nothing that the law and all that it calls make is longer than what came in: it says more and counts as full. Else prove '..UptoSaid'. A law counts once. -/
mutual
def uptoBulk {H : Type} : DataW H → Nat
  | .lit (.string bytes) => bytes.length + 1
  | .lit _ => 1
  | .nil => 1
  | .ptr d => uptoBulk d + 1
  | .slice elems spare => uptoBulkAll elems + uptoBulkAll spare + 1
  | .agg parts => uptoBulkAll parts + 1
  | .iface _ d => uptoBulk d + 1
  | .map entries => uptoBulkEntries entries + 1
  | .held _ => 1
def uptoBulkAll {H : Type} : List (DataW H) → Nat
  | [] => 0
  | d :: r => uptoBulk d + uptoBulkAll r
def uptoBulkEntries {H : Type} : List (Lit × DataW H) → Nat
  | [] => 0
  | x :: r => uptoBulkEntry x + uptoBulkEntries r
def uptoBulkEntry {H : Type} : Lit × DataW H → Nat
  | (.string bytes, d) => bytes.length + uptoBulk d + 1
  | (_, d) => uptoBulk d + 1
 end
def uptoSmall : (H : Type) → List (DataW H) → Bool := fun _ ds => decide (uptoBulkAll ds ≤ 1048576)
def OpenSpec.upto (s : _root_.Go.ChangeSpec) : _root_.Go.OpenSpec := { _root_.Go.OpenSpec.ofChange s with cond := some uptoSmall }

/-- 'haymowlaw06.EvalTells', WHERE WHAT IT READS IS OF BULK AT MOST 1048576: true; the input reads as it did. -/
def evalTellsUptoRow : OpenClaim := { program := "ytnhipdniceoigaa", sum := "1517c795e99c75bc683557ec37e802baf1dda45351285de4613abb3c7dde701f", func := "haymow/haymowlaw06.EvalTells", spec := "evalTells", unfollowed := true, recurses := true, apart := false, narrowed := true }
def EvalTellsUptoSaid : Prop := evalTellsUptoRow.holds Try.pinned (OpenSpec.upto evalTellsSpec)

/-- 'haymowlaw06.EvalBounds', WHERE WHAT IT READS IS OF BULK AT MOST 1048576: true; the input reads as it did. -/
def evalBoundsUptoRow : OpenClaim := { program := "ytnhipdniceoigaa", sum := "1517c795e99c75bc683557ec37e802baf1dda45351285de4613abb3c7dde701f", func := "haymow/haymowlaw06.EvalBounds", spec := "evalBounds", unfollowed := true, recurses := true, apart := false, narrowed := true }
def EvalBoundsUptoSaid : Prop := evalBoundsUptoRow.holds Try.pinned (OpenSpec.upto evalBoundsSpec)

/-- 'haymowlaw06.EvalEnough', WHERE WHAT IT READS IS OF BULK AT MOST 1048576: true; the input reads as it did. -/
def evalEnoughUptoRow : OpenClaim := { program := "ytnhipdniceoigaa", sum := "1517c795e99c75bc683557ec37e802baf1dda45351285de4613abb3c7dde701f", func := "haymow/haymowlaw06.EvalEnough", spec := "evalEnough", unfollowed := true, recurses := true, apart := false, narrowed := true }
def EvalEnoughUptoSaid : Prop := evalEnoughUptoRow.holds Try.pinned (OpenSpec.upto evalEnoughSpec)

/-- 'haymowlaw06.EvalSums', WHERE WHAT IT READS IS OF BULK AT MOST 1048576: true; the input reads as it did. -/
def evalSumsUptoRow : OpenClaim := { program := "ytnhipdniceoigaa", sum := "1517c795e99c75bc683557ec37e802baf1dda45351285de4613abb3c7dde701f", func := "haymow/haymowlaw06.EvalSums", spec := "evalSums", unfollowed := true, recurses := true, apart := false, narrowed := true }
def EvalSumsUptoSaid : Prop := evalSumsUptoRow.holds Try.pinned (OpenSpec.upto evalSumsSpec)

/-- 'haymowlaw06.EvalLoops', WHERE WHAT IT READS IS OF BULK AT MOST 1048576: true; the input reads as it did. -/
def evalLoopsUptoRow : OpenClaim := { program := "ytnhipdniceoigaa", sum := "1517c795e99c75bc683557ec37e802baf1dda45351285de4613abb3c7dde701f", func := "haymow/haymowlaw06.EvalLoops", spec := "evalLoops", unfollowed := true, recurses := true, apart := false, narrowed := true }
def EvalLoopsUptoSaid : Prop := evalLoopsUptoRow.holds Try.pinned (OpenSpec.upto evalLoopsSpec)

/-- 'haymowlaw06.EvalDeep', WHERE WHAT IT READS IS OF BULK AT MOST 1048576: true; the input reads as it did. -/
def evalDeepUptoRow : OpenClaim := { program := "ytnhipdniceoigaa", sum := "1517c795e99c75bc683557ec37e802baf1dda45351285de4613abb3c7dde701f", func := "haymow/haymowlaw06.EvalDeep", spec := "evalDeep", unfollowed := true, recurses := true, apart := false, narrowed := true }
def EvalDeepUptoSaid : Prop := evalDeepUptoRow.holds Try.pinned (OpenSpec.upto evalDeepSpec)

/-- 'haymowlaw06.EvalReckons', WHERE WHAT IT READS IS OF BULK AT MOST 1048576: true; the input reads as it did. -/
def evalReckonsUptoRow : OpenClaim := { program := "ytnhipdniceoigaa", sum := "1517c795e99c75bc683557ec37e802baf1dda45351285de4613abb3c7dde701f", func := "haymow/haymowlaw06.EvalReckons", spec := "evalReckons", unfollowed := true, recurses := true, apart := false, narrowed := true }
def EvalReckonsUptoSaid : Prop := evalReckonsUptoRow.holds Try.pinned (OpenSpec.upto evalReckonsSpec)

/-- 'haymowlaw06.EvalTouches', WHERE WHAT IT READS IS OF BULK AT MOST 1048576: true; the input reads as it did. -/
def evalTouchesUptoRow : OpenClaim := { program := "ytnhipdniceoigaa", sum := "1517c795e99c75bc683557ec37e802baf1dda45351285de4613abb3c7dde701f", func := "haymow/haymowlaw06.EvalTouches", spec := "evalTouches", unfollowed := true, recurses := true, apart := false, narrowed := true }
def EvalTouchesUptoSaid : Prop := evalTouchesUptoRow.holds Try.pinned (OpenSpec.upto evalTouchesSpec)

end Rows
end Go.Proofs.Ytnhipdniceoigaa
