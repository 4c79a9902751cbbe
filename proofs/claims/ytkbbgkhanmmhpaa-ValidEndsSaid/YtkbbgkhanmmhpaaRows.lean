/-
  No cell of these rows narrows 'for every input' (looked for: loops, veiled, ifaces, maps, wideKeys, modest, calm, conditions, laid).
  DERIVED. THE GIVEN ROWS OF THIS SEAT. 6 by the template 'for every input the law returns true; each argument reads behind the call as it read before'; 0 by the template 'total and deterministic' (their statements: YtkbbgkhanmmhpaaTotals.lean).
  GIVEN WITH THE SEED: the statements are not yours to turn. If you find one false, say at which input.
  Laid BY PROGRAM, IN A SANDBOX (cutbox-rows.mjs): the forced cells as the released guide's own fill.sh prints them over the translation c85a17a5c2e3034e… (all of the seat's roots in one cut). By AI agents, Wed Nov 11 2026. No macro, syntax, notation, axiom, sorry.
-/
import Derived.Test.YtkbbgkhanmmhpaaChecked
import GoSem.Claim
import GoSem.ClaimJoined
import GoSem.ClaimMapViews
import Derived.JoinedTies
import Derived.KernelRfl
namespace Go.Proofs.Ytkbbgkhanmmhpaa
/- THE CELL 'sum', in the pinned program and in every row, IS THE sha256 OF THE DUMP (.gsa) THAT YtkbbgkhanmmhpaaProg.lean LOADS. Nothing in Lean hashes anything: it is a label: what it is worth is what the hold of that sum in a sandbox is worth. -/
noncomputable def Try.pinned : Pinned := { name := "ytkbbgkhanmmhpaa", sum := "c85a17a5c2e3034e85d51777b4ee3fac8462315c51ded9b7b07bd3641ee2be84", checked := Try.checked }
namespace Rows
def none {H : Type} : Left H := { results := [], args := [] }

/-- 'haymowlaw03.ValidTells': WHATEVER THE INPUT: true; the input reads as it did. -/
def validTellsSpec : ChangeSpec := { name := "validTells", fn := fun _ => fun
  | [d] => { results := [.lit (.bool true)], args := [d] }
  | _ => none }
def validTellsRow : OpenClaim := { program := "ytkbbgkhanmmhpaa", sum := "c85a17a5c2e3034e85d51777b4ee3fac8462315c51ded9b7b07bd3641ee2be84", func := "haymow/haymowlaw03.ValidTells", spec := "validTells", unfollowed := true, recurses := true, apart := false }
def ValidTellsSaid : Prop := validTellsRow.holds Try.pinned (OpenSpec.ofChange validTellsSpec)

/-- ITS FALSE NEIGHBOUR: 'it returns false'. Refute it at one input. -/
def validTellsWrong : ChangeSpec := { name := "validTells", fn := fun _ => fun
  | [d] => { results := [.lit (.bool false)], args := [d] }
  | _ => none }
def ValidTellsWrongFalsely : Prop := validTellsRow.holds Try.pinned (OpenSpec.ofChange validTellsWrong)

/-- 'haymowlaw03.ValidMore': WHATEVER THE INPUT: true; the input reads as it did. -/
def validMoreSpec : ChangeSpec := { name := "validMore", fn := fun _ => fun
  | [d1, d2] => { results := [.lit (.bool true)], args := [d1, d2] }
  | _ => none }
def validMoreRow : OpenClaim := { program := "ytkbbgkhanmmhpaa", sum := "c85a17a5c2e3034e85d51777b4ee3fac8462315c51ded9b7b07bd3641ee2be84", func := "haymow/haymowlaw03.ValidMore", spec := "validMore", unfollowed := true, recurses := true, apart := false }
def ValidMoreSaid : Prop := validMoreRow.holds Try.pinned (OpenSpec.ofChange validMoreSpec)

/-- ITS FALSE NEIGHBOUR: 'it returns false'. Refute it at one input. -/
def validMoreWrong : ChangeSpec := { name := "validMore", fn := fun _ => fun
  | [d1, d2] => { results := [.lit (.bool false)], args := [d1, d2] }
  | _ => none }
def ValidMoreWrongFalsely : Prop := validMoreRow.holds Try.pinned (OpenSpec.ofChange validMoreWrong)

/-- 'haymowlaw03.ValidJumps': WHATEVER THE INPUT: true; the input reads as it did. -/
def validJumpsSpec : ChangeSpec := { name := "validJumps", fn := fun _ => fun
  | [d1, d2] => { results := [.lit (.bool true)], args := [d1, d2] }
  | _ => none }
def validJumpsRow : OpenClaim := { program := "ytkbbgkhanmmhpaa", sum := "c85a17a5c2e3034e85d51777b4ee3fac8462315c51ded9b7b07bd3641ee2be84", func := "haymow/haymowlaw03.ValidJumps", spec := "validJumps", unfollowed := true, recurses := true, apart := false }
def ValidJumpsSaid : Prop := validJumpsRow.holds Try.pinned (OpenSpec.ofChange validJumpsSpec)

/-- ITS FALSE NEIGHBOUR: 'it returns false'. Refute it at one input. -/
def validJumpsWrong : ChangeSpec := { name := "validJumps", fn := fun _ => fun
  | [d1, d2] => { results := [.lit (.bool false)], args := [d1, d2] }
  | _ => none }
def ValidJumpsWrongFalsely : Prop := validJumpsRow.holds Try.pinned (OpenSpec.ofChange validJumpsWrong)

/-- 'haymowlaw03.ValidCalls': WHATEVER THE INPUT: true; the input reads as it did. -/
def validCallsSpec : ChangeSpec := { name := "validCalls", fn := fun _ => fun
  | [d] => { results := [.lit (.bool true)], args := [d] }
  | _ => none }
def validCallsRow : OpenClaim := { program := "ytkbbgkhanmmhpaa", sum := "c85a17a5c2e3034e85d51777b4ee3fac8462315c51ded9b7b07bd3641ee2be84", func := "haymow/haymowlaw03.ValidCalls", spec := "validCalls", unfollowed := true, recurses := true, apart := false }
def ValidCallsSaid : Prop := validCallsRow.holds Try.pinned (OpenSpec.ofChange validCallsSpec)

/-- ITS FALSE NEIGHBOUR: 'it returns false'. Refute it at one input. -/
def validCallsWrong : ChangeSpec := { name := "validCalls", fn := fun _ => fun
  | [d] => { results := [.lit (.bool false)], args := [d] }
  | _ => none }
def ValidCallsWrongFalsely : Prop := validCallsRow.holds Try.pinned (OpenSpec.ofChange validCallsWrong)

/-- 'haymowlaw03.ValidEnds': WHATEVER THE INPUT: true; the input reads as it did. -/
def validEndsSpec : ChangeSpec := { name := "validEnds", fn := fun _ => fun
  | [d1, d2] => { results := [.lit (.bool true)], args := [d1, d2] }
  | _ => none }
def validEndsRow : OpenClaim := { program := "ytkbbgkhanmmhpaa", sum := "c85a17a5c2e3034e85d51777b4ee3fac8462315c51ded9b7b07bd3641ee2be84", func := "haymow/haymowlaw03.ValidEnds", spec := "validEnds", unfollowed := true, recurses := true, apart := false }
def ValidEndsSaid : Prop := validEndsRow.holds Try.pinned (OpenSpec.ofChange validEndsSpec)

/-- ITS FALSE NEIGHBOUR: 'it returns false'. Refute it at one input. -/
def validEndsWrong : ChangeSpec := { name := "validEnds", fn := fun _ => fun
  | [d1, d2] => { results := [.lit (.bool false)], args := [d1, d2] }
  | _ => none }
def ValidEndsWrongFalsely : Prop := validEndsRow.holds Try.pinned (OpenSpec.ofChange validEndsWrong)

/-- 'haymowlaw03.ValidFits': WHATEVER THE INPUT: true; the input reads as it did. -/
def validFitsSpec : ChangeSpec := { name := "validFits", fn := fun _ => fun
  | [d] => { results := [.lit (.bool true)], args := [d] }
  | _ => none }
def validFitsRow : OpenClaim := { program := "ytkbbgkhanmmhpaa", sum := "c85a17a5c2e3034e85d51777b4ee3fac8462315c51ded9b7b07bd3641ee2be84", func := "haymow/haymowlaw03.ValidFits", spec := "validFits", unfollowed := true, recurses := true, apart := false }
def ValidFitsSaid : Prop := validFitsRow.holds Try.pinned (OpenSpec.ofChange validFitsSpec)

/-- ITS FALSE NEIGHBOUR: 'it returns false'. Refute it at one input. -/
def validFitsWrong : ChangeSpec := { name := "validFits", fn := fun _ => fun
  | [d] => { results := [.lit (.bool false)], args := [d] }
  | _ => none }
def ValidFitsWrongFalsely : Prop := validFitsRow.holds Try.pinned (OpenSpec.ofChange validFitsWrong)

/- THE SECOND FORM. 'bulk': how many values and letters a reading holds, each counted each time it is reached (what is shared counts as often as it is met; a slice's spare places count too). A statement '..UptoSaid' is the law's where the arguments, and the package variables that the reading takes, are together of bulk at most 1048576: NARROWER than '..Said'. Prove '..Said' where nothing that the law and all that it calls make is longer than what came in: it says more and counts as full. Else prove '..UptoSaid'. A law counts once. -/
mutual
def uptoBulk {H : Type} : DataW H → Nat
  | .lit (.string bytes) => bytes.length + 1
  | .lit _ => 1
  | .nil => 1
  | .ptr d => uptoBulk d + 1
  | .slice elems spare => uptoBulkAll elems + uptoBulkAll spare + 1
  | .agg parts => uptoBulkAll parts + 1
  | .iface _ d => uptoBulk d + 1
  | .map entries => uptoBulkEntries entries + 1
  | .held _ => 1
def uptoBulkAll {H : Type} : List (DataW H) → Nat
  | [] => 0
  | d :: r => uptoBulk d + uptoBulkAll r
def uptoBulkEntries {H : Type} : List (Lit × DataW H) → Nat
  | [] => 0
  | x :: r => uptoBulkEntry x + uptoBulkEntries r
def uptoBulkEntry {H : Type} : Lit × DataW H → Nat
  | (.string bytes, d) => bytes.length + uptoBulk d + 1
  | (_, d) => uptoBulk d + 1
 end
def uptoSmall : (H : Type) → List (DataW H) → Bool := fun _ ds => decide (uptoBulkAll ds ≤ 1048576)
def OpenSpec.upto (s : _root_.Go.ChangeSpec) : _root_.Go.OpenSpec := { _root_.Go.OpenSpec.ofChange s with cond := some uptoSmall }

/-- 'haymowlaw03.ValidTells', WHERE WHAT IT READS IS OF BULK AT MOST 1048576: true; the input reads as it did. -/
def validTellsUptoRow : OpenClaim := { program := "ytkbbgkhanmmhpaa", sum := "c85a17a5c2e3034e85d51777b4ee3fac8462315c51ded9b7b07bd3641ee2be84", func := "haymow/haymowlaw03.ValidTells", spec := "validTells", unfollowed := true, recurses := true, apart := false, narrowed := true }
def ValidTellsUptoSaid : Prop := validTellsUptoRow.holds Try.pinned (OpenSpec.upto validTellsSpec)

/-- 'haymowlaw03.ValidMore', WHERE WHAT IT READS IS OF BULK AT MOST 1048576: true; the input reads as it did. -/
def validMoreUptoRow : OpenClaim := { program := "ytkbbgkhanmmhpaa", sum := "c85a17a5c2e3034e85d51777b4ee3fac8462315c51ded9b7b07bd3641ee2be84", func := "haymow/haymowlaw03.ValidMore", spec := "validMore", unfollowed := true, recurses := true, apart := false, narrowed := true }
def ValidMoreUptoSaid : Prop := validMoreUptoRow.holds Try.pinned (OpenSpec.upto validMoreSpec)

/-- 'haymowlaw03.ValidJumps', WHERE WHAT IT READS IS OF BULK AT MOST 1048576: true; the input reads as it did. -/
def validJumpsUptoRow : OpenClaim := { program := "ytkbbgkhanmmhpaa", sum := "c85a17a5c2e3034e85d51777b4ee3fac8462315c51ded9b7b07bd3641ee2be84", func := "haymow/haymowlaw03.ValidJumps", spec := "validJumps", unfollowed := true, recurses := true, apart := false, narrowed := true }
def ValidJumpsUptoSaid : Prop := validJumpsUptoRow.holds Try.pinned (OpenSpec.upto validJumpsSpec)

/-- 'haymowlaw03.ValidCalls', WHERE WHAT IT READS IS OF BULK AT MOST 1048576: true; the input reads as it did. -/
def validCallsUptoRow : OpenClaim := { program := "ytkbbgkhanmmhpaa", sum := "c85a17a5c2e3034e85d51777b4ee3fac8462315c51ded9b7b07bd3641ee2be84", func := "haymow/haymowlaw03.ValidCalls", spec := "validCalls", unfollowed := true, recurses := true, apart := false, narrowed := true }
def ValidCallsUptoSaid : Prop := validCallsUptoRow.holds Try.pinned (OpenSpec.upto validCallsSpec)

/-- 'haymowlaw03.ValidEnds', WHERE WHAT IT READS IS OF BULK AT MOST 1048576: true; the input reads as it did. -/
def validEndsUptoRow : OpenClaim := { program := "ytkbbgkhanmmhpaa", sum := "c85a17a5c2e3034e85d51777b4ee3fac8462315c51ded9b7b07bd3641ee2be84", func := "haymow/haymowlaw03.ValidEnds", spec := "validEnds", unfollowed := true, recurses := true, apart := false, narrowed := true }
def ValidEndsUptoSaid : Prop := validEndsUptoRow.holds Try.pinned (OpenSpec.upto validEndsSpec)

/-- 'haymowlaw03.ValidFits', WHERE WHAT IT READS IS OF BULK AT MOST 1048576: true; the input reads as it did. -/
def validFitsUptoRow : OpenClaim := { program := "ytkbbgkhanmmhpaa", sum := "c85a17a5c2e3034e85d51777b4ee3fac8462315c51ded9b7b07bd3641ee2be84", func := "haymow/haymowlaw03.ValidFits", spec := "validFits", unfollowed := true, recurses := true, apart := false, narrowed := true }
def ValidFitsUptoSaid : Prop := validFitsUptoRow.holds Try.pinned (OpenSpec.upto validFitsSpec)

end Rows
end Go.Proofs.Ytkbbgkhanmmhpaa
