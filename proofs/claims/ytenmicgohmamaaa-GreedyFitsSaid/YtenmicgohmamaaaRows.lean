/-
  No cell of these rows narrows 'for every input' (looked for: loops, veiled, ifaces, maps, wideKeys, modest, calm, conditions, laid).
  DERIVED. THE GIVEN ROWS OF THIS SEAT. 7 by the template 'for every input the law returns true; each argument reads behind the call as it read before'; 0 by the template 'total and deterministic' (their statements: YtenmicgohmamaaaTotals.lean).
  GIVEN WITH THE SEED: the statements are not yours to turn. If you find one false, say at which input.
  Laid BY PROGRAM, IN A SANDBOX (cutbox-rows.mjs): the forced cells as the released guide's own fill.sh prints them over the translation 9b7db582a56e7d5d… (all of the seat's roots in one cut). By AI agents, Wed Nov 11 2026. No macro, syntax, notation, axiom, sorry.
-/
import Derived.Test.YtenmicgohmamaaaChecked
import GoSem.Claim
import GoSem.ClaimJoined
import GoSem.ClaimMapViews
import Derived.JoinedTies
import Derived.KernelRfl
namespace Go.Proofs.Ytenmicgohmamaaa
/- THE CELL 'sum', in the pinned program and in every row, IS THE sha256 OF THE DUMP (.gsa) THAT YtenmicgohmamaaaProg.lean LOADS. Nothing in Lean hashes anything: it is a label: what it is worth is what the hold of that sum in a sandbox is worth. -/
noncomputable def Try.pinned : Pinned := { name := "ytenmicgohmamaaa", sum := "9b7db582a56e7d5d4ffc573c17f912783250814aa9bdf31766f2aec39a57bdd5", checked := Try.checked }
namespace Rows
def none {H : Type} : Left H := { results := [], args := [] }

/-- 'haymowlaw15.GreedyPlans': WHATEVER THE INPUT: true; the input reads as it did. -/
def greedyPlansSpec : ChangeSpec := { name := "greedyPlans", fn := fun _ => fun
  | [d1, d2] => { results := [.lit (.bool true)], args := [d1, d2] }
  | _ => none }
def greedyPlansRow : OpenClaim := { program := "ytenmicgohmamaaa", sum := "9b7db582a56e7d5d4ffc573c17f912783250814aa9bdf31766f2aec39a57bdd5", func := "haymow/haymowlaw15.GreedyPlans", spec := "greedyPlans", unfollowed := true, recurses := true, apart := false }
def GreedyPlansSaid : Prop := greedyPlansRow.holds Try.pinned (OpenSpec.ofChange greedyPlansSpec)

/-- ITS FALSE NEIGHBOUR: 'it returns false'. Refute it at one input. -/
def greedyPlansWrong : ChangeSpec := { name := "greedyPlans", fn := fun _ => fun
  | [d1, d2] => { results := [.lit (.bool false)], args := [d1, d2] }
  | _ => none }
def GreedyPlansWrongFalsely : Prop := greedyPlansRow.holds Try.pinned (OpenSpec.ofChange greedyPlansWrong)

/-- 'haymowlaw15.GreedyForks': WHATEVER THE INPUT: true; the input reads as it did. -/
def greedyForksSpec : ChangeSpec := { name := "greedyForks", fn := fun _ => fun
  | [d1, d2] => { results := [.lit (.bool true)], args := [d1, d2] }
  | _ => none }
def greedyForksRow : OpenClaim := { program := "ytenmicgohmamaaa", sum := "9b7db582a56e7d5d4ffc573c17f912783250814aa9bdf31766f2aec39a57bdd5", func := "haymow/haymowlaw15.GreedyForks", spec := "greedyForks", unfollowed := true, recurses := true, apart := false }
def GreedyForksSaid : Prop := greedyForksRow.holds Try.pinned (OpenSpec.ofChange greedyForksSpec)

/-- ITS FALSE NEIGHBOUR: 'it returns false'. Refute it at one input. -/
def greedyForksWrong : ChangeSpec := { name := "greedyForks", fn := fun _ => fun
  | [d1, d2] => { results := [.lit (.bool false)], args := [d1, d2] }
  | _ => none }
def GreedyForksWrongFalsely : Prop := greedyForksRow.holds Try.pinned (OpenSpec.ofChange greedyForksWrong)

/-- 'haymowlaw15.GreedyOne': WHATEVER THE INPUT: true; the input reads as it did. -/
def greedyOneSpec : ChangeSpec := { name := "greedyOne", fn := fun _ => fun
  | [d] => { results := [.lit (.bool true)], args := [d] }
  | _ => none }
def greedyOneRow : OpenClaim := { program := "ytenmicgohmamaaa", sum := "9b7db582a56e7d5d4ffc573c17f912783250814aa9bdf31766f2aec39a57bdd5", func := "haymow/haymowlaw15.GreedyOne", spec := "greedyOne", unfollowed := true, recurses := true, apart := false }
def GreedyOneSaid : Prop := greedyOneRow.holds Try.pinned (OpenSpec.ofChange greedyOneSpec)

/-- ITS FALSE NEIGHBOUR: 'it returns false'. Refute it at one input. -/
def greedyOneWrong : ChangeSpec := { name := "greedyOne", fn := fun _ => fun
  | [d] => { results := [.lit (.bool false)], args := [d] }
  | _ => none }
def GreedyOneWrongFalsely : Prop := greedyOneRow.holds Try.pinned (OpenSpec.ofChange greedyOneWrong)

/-- 'haymowlaw15.GreedyFits': WHATEVER THE INPUT: true; the input reads as it did. -/
def greedyFitsSpec : ChangeSpec := { name := "greedyFits", fn := fun _ => fun
  | [d1, d2, d3] => { results := [.lit (.bool true)], args := [d1, d2, d3] }
  | _ => none }
def greedyFitsRow : OpenClaim := { program := "ytenmicgohmamaaa", sum := "9b7db582a56e7d5d4ffc573c17f912783250814aa9bdf31766f2aec39a57bdd5", func := "haymow/haymowlaw15.GreedyFits", spec := "greedyFits", unfollowed := true, recurses := true, apart := false }
def GreedyFitsSaid : Prop := greedyFitsRow.holds Try.pinned (OpenSpec.ofChange greedyFitsSpec)

/-- ITS FALSE NEIGHBOUR: 'it returns false'. Refute it at one input. -/
def greedyFitsWrong : ChangeSpec := { name := "greedyFits", fn := fun _ => fun
  | [d1, d2, d3] => { results := [.lit (.bool false)], args := [d1, d2, d3] }
  | _ => none }
def GreedyFitsWrongFalsely : Prop := greedyFitsRow.holds Try.pinned (OpenSpec.ofChange greedyFitsWrong)

/-- 'haymowlaw15.GreedyWide': WHATEVER THE INPUT: true; the input reads as it did. -/
def greedyWideSpec : ChangeSpec := { name := "greedyWide", fn := fun _ => fun
  | [d] => { results := [.lit (.bool true)], args := [d] }
  | _ => none }
def greedyWideRow : OpenClaim := { program := "ytenmicgohmamaaa", sum := "9b7db582a56e7d5d4ffc573c17f912783250814aa9bdf31766f2aec39a57bdd5", func := "haymow/haymowlaw15.GreedyWide", spec := "greedyWide", unfollowed := true, recurses := true, apart := false }
def GreedyWideSaid : Prop := greedyWideRow.holds Try.pinned (OpenSpec.ofChange greedyWideSpec)

/-- ITS FALSE NEIGHBOUR: 'it returns false'. Refute it at one input. -/
def greedyWideWrong : ChangeSpec := { name := "greedyWide", fn := fun _ => fun
  | [d] => { results := [.lit (.bool false)], args := [d] }
  | _ => none }
def GreedyWideWrongFalsely : Prop := greedyWideRow.holds Try.pinned (OpenSpec.ofChange greedyWideWrong)

/-- 'haymowlaw15.GreedyBounds': WHATEVER THE INPUT: true; the input reads as it did. -/
def greedyBoundsSpec : ChangeSpec := { name := "greedyBounds", fn := fun _ => fun
  | [d1, d2] => { results := [.lit (.bool true)], args := [d1, d2] }
  | _ => none }
def greedyBoundsRow : OpenClaim := { program := "ytenmicgohmamaaa", sum := "9b7db582a56e7d5d4ffc573c17f912783250814aa9bdf31766f2aec39a57bdd5", func := "haymow/haymowlaw15.GreedyBounds", spec := "greedyBounds", unfollowed := true, recurses := true, apart := false }
def GreedyBoundsSaid : Prop := greedyBoundsRow.holds Try.pinned (OpenSpec.ofChange greedyBoundsSpec)

/-- ITS FALSE NEIGHBOUR: 'it returns false'. Refute it at one input. -/
def greedyBoundsWrong : ChangeSpec := { name := "greedyBounds", fn := fun _ => fun
  | [d1, d2] => { results := [.lit (.bool false)], args := [d1, d2] }
  | _ => none }
def GreedyBoundsWrongFalsely : Prop := greedyBoundsRow.holds Try.pinned (OpenSpec.ofChange greedyBoundsWrong)

/-- 'haymowlaw15.GreedyLeast': WHATEVER THE INPUT: true; the input reads as it did. -/
def greedyLeastSpec : ChangeSpec := { name := "greedyLeast", fn := fun _ => fun
  | [d1, d2, d3] => { results := [.lit (.bool true)], args := [d1, d2, d3] }
  | _ => none }
def greedyLeastRow : OpenClaim := { program := "ytenmicgohmamaaa", sum := "9b7db582a56e7d5d4ffc573c17f912783250814aa9bdf31766f2aec39a57bdd5", func := "haymow/haymowlaw15.GreedyLeast", spec := "greedyLeast", unfollowed := true, recurses := true, apart := false }
def GreedyLeastSaid : Prop := greedyLeastRow.holds Try.pinned (OpenSpec.ofChange greedyLeastSpec)

/-- ITS FALSE NEIGHBOUR: 'it returns false'. Refute it at one input. -/
def greedyLeastWrong : ChangeSpec := { name := "greedyLeast", fn := fun _ => fun
  | [d1, d2, d3] => { results := [.lit (.bool false)], args := [d1, d2, d3] }
  | _ => none }
def GreedyLeastWrongFalsely : Prop := greedyLeastRow.holds Try.pinned (OpenSpec.ofChange greedyLeastWrong)

/- THE SECOND FORM. 'bulk': how many values and letters a reading holds, each counted each time it is reached (what is shared counts as often as it is met; a slice's spare places count too). A statement '..UptoSaid' is the law's where the arguments, and the package variables that the reading takes, are together of bulk at most 1048576: NARROWER than '..Said'. Prove '..Said' where nothing that the law and all that it calls make is longer than what came in: it says more and counts as full. Else prove '..UptoSaid'. A law counts once. -/
mutual
def uptoBulk {H : Type} : DataW H → Nat
  | .lit (.string bytes) => bytes.length + 1
  | .lit _ => 1
  | .nil => 1
  | .ptr d => uptoBulk d + 1
  | .slice elems spare => uptoBulkAll elems + uptoBulkAll spare + 1
  | .agg parts => uptoBulkAll parts + 1
  | .iface _ d => uptoBulk d + 1
  | .map entries => uptoBulkEntries entries + 1
  | .held _ => 1
def uptoBulkAll {H : Type} : List (DataW H) → Nat
  | [] => 0
  | d :: r => uptoBulk d + uptoBulkAll r
def uptoBulkEntries {H : Type} : List (Lit × DataW H) → Nat
  | [] => 0
  | x :: r => uptoBulkEntry x + uptoBulkEntries r
def uptoBulkEntry {H : Type} : Lit × DataW H → Nat
  | (.string bytes, d) => bytes.length + uptoBulk d + 1
  | (_, d) => uptoBulk d + 1
 end
def uptoSmall : (H : Type) → List (DataW H) → Bool := fun _ ds => decide (uptoBulkAll ds ≤ 1048576)
def OpenSpec.upto (s : _root_.Go.ChangeSpec) : _root_.Go.OpenSpec := { _root_.Go.OpenSpec.ofChange s with cond := some uptoSmall }

/-- 'haymowlaw15.GreedyPlans', WHERE WHAT IT READS IS OF BULK AT MOST 1048576: true; the input reads as it did. -/
def greedyPlansUptoRow : OpenClaim := { program := "ytenmicgohmamaaa", sum := "9b7db582a56e7d5d4ffc573c17f912783250814aa9bdf31766f2aec39a57bdd5", func := "haymow/haymowlaw15.GreedyPlans", spec := "greedyPlans", unfollowed := true, recurses := true, apart := false, narrowed := true }
def GreedyPlansUptoSaid : Prop := greedyPlansUptoRow.holds Try.pinned (OpenSpec.upto greedyPlansSpec)

/-- 'haymowlaw15.GreedyForks', WHERE WHAT IT READS IS OF BULK AT MOST 1048576: true; the input reads as it did. -/
def greedyForksUptoRow : OpenClaim := { program := "ytenmicgohmamaaa", sum := "9b7db582a56e7d5d4ffc573c17f912783250814aa9bdf31766f2aec39a57bdd5", func := "haymow/haymowlaw15.GreedyForks", spec := "greedyForks", unfollowed := true, recurses := true, apart := false, narrowed := true }
def GreedyForksUptoSaid : Prop := greedyForksUptoRow.holds Try.pinned (OpenSpec.upto greedyForksSpec)

/-- 'haymowlaw15.GreedyOne', WHERE WHAT IT READS IS OF BULK AT MOST 1048576: true; the input reads as it did. -/
def greedyOneUptoRow : OpenClaim := { program := "ytenmicgohmamaaa", sum := "9b7db582a56e7d5d4ffc573c17f912783250814aa9bdf31766f2aec39a57bdd5", func := "haymow/haymowlaw15.GreedyOne", spec := "greedyOne", unfollowed := true, recurses := true, apart := false, narrowed := true }
def GreedyOneUptoSaid : Prop := greedyOneUptoRow.holds Try.pinned (OpenSpec.upto greedyOneSpec)

/-- 'haymowlaw15.GreedyFits', WHERE WHAT IT READS IS OF BULK AT MOST 1048576: true; the input reads as it did. -/
def greedyFitsUptoRow : OpenClaim := { program := "ytenmicgohmamaaa", sum := "9b7db582a56e7d5d4ffc573c17f912783250814aa9bdf31766f2aec39a57bdd5", func := "haymow/haymowlaw15.GreedyFits", spec := "greedyFits", unfollowed := true, recurses := true, apart := false, narrowed := true }
def GreedyFitsUptoSaid : Prop := greedyFitsUptoRow.holds Try.pinned (OpenSpec.upto greedyFitsSpec)

/-- 'haymowlaw15.GreedyWide', WHERE WHAT IT READS IS OF BULK AT MOST 1048576: true; the input reads as it did. -/
def greedyWideUptoRow : OpenClaim := { program := "ytenmicgohmamaaa", sum := "9b7db582a56e7d5d4ffc573c17f912783250814aa9bdf31766f2aec39a57bdd5", func := "haymow/haymowlaw15.GreedyWide", spec := "greedyWide", unfollowed := true, recurses := true, apart := false, narrowed := true }
def GreedyWideUptoSaid : Prop := greedyWideUptoRow.holds Try.pinned (OpenSpec.upto greedyWideSpec)

/-- 'haymowlaw15.GreedyBounds', WHERE WHAT IT READS IS OF BULK AT MOST 1048576: true; the input reads as it did. -/
def greedyBoundsUptoRow : OpenClaim := { program := "ytenmicgohmamaaa", sum := "9b7db582a56e7d5d4ffc573c17f912783250814aa9bdf31766f2aec39a57bdd5", func := "haymow/haymowlaw15.GreedyBounds", spec := "greedyBounds", unfollowed := true, recurses := true, apart := false, narrowed := true }
def GreedyBoundsUptoSaid : Prop := greedyBoundsUptoRow.holds Try.pinned (OpenSpec.upto greedyBoundsSpec)

/-- 'haymowlaw15.GreedyLeast', WHERE WHAT IT READS IS OF BULK AT MOST 1048576: true; the input reads as it did. -/
def greedyLeastUptoRow : OpenClaim := { program := "ytenmicgohmamaaa", sum := "9b7db582a56e7d5d4ffc573c17f912783250814aa9bdf31766f2aec39a57bdd5", func := "haymow/haymowlaw15.GreedyLeast", spec := "greedyLeast", unfollowed := true, recurses := true, apart := false, narrowed := true }
def GreedyLeastUptoSaid : Prop := greedyLeastUptoRow.holds Try.pinned (OpenSpec.upto greedyLeastSpec)

end Rows
end Go.Proofs.Ytenmicgohmamaaa
