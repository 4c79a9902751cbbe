/-
  No cell of these rows narrows 'for every input' (looked for: loops, veiled, ifaces, maps, wideKeys, modest, calm, conditions, laid).
  DERIVED. THE GIVEN ROWS OF THIS SEAT. 6 by the template 'for every input the law returns true; each argument reads behind the call as it read before'; 0 by the template 'total and deterministic' (their statements: YtbekjccehhaljaaTotals.lean).
  GIVEN WITH THE SEED: the statements are not yours to turn. If you find one false, say at which input.
  Laid BY PROGRAM, IN A SANDBOX (cutbox-rows.mjs): the forced cells as the released guide's own fill.sh prints them over the translation 4153b5d9f29f6d6e… (all of the seat's roots in one cut). By AI agents, Wed Nov 11 2026. No macro, syntax, notation, axiom, sorry.
-/
import Derived.Test.YtbekjccehhaljaaChecked
import GoSem.Claim
import GoSem.ClaimJoined
import GoSem.ClaimMapViews
import Derived.JoinedTies
import Derived.KernelRfl
namespace Go.Proofs.Ytbekjccehhaljaa
/- THE CELL 'sum', in the pinned program and in every row, IS THE sha256 OF THE DUMP (.gsa) THAT YtbekjccehhaljaaProg.lean LOADS. Nothing in Lean hashes anything: it is a label: what it is worth is what the hold of that sum in a sandbox is worth. -/
noncomputable def Try.pinned : Pinned := { name := "ytbekjccehhaljaa", sum := "4153b5d9f29f6d6e5da4ebc72796c494c0277afb0f275b62986f3ec17b4eec67", checked := Try.checked }
namespace Rows
def none {H : Type} : Left H := { results := [], args := [] }

/-- 'haymowlaw08.UnfoldTells': WHATEVER THE INPUT: true; the input reads as it did. -/
def unfoldTellsSpec : ChangeSpec := { name := "unfoldTells", fn := fun _ => fun
  | [d1, d2] => { results := [.lit (.bool true)], args := [d1, d2] }
  | _ => none }
def unfoldTellsRow : OpenClaim := { program := "ytbekjccehhaljaa", sum := "4153b5d9f29f6d6e5da4ebc72796c494c0277afb0f275b62986f3ec17b4eec67", func := "haymow/haymowlaw08.UnfoldTells", spec := "unfoldTells", unfollowed := true, recurses := true, apart := false }
def UnfoldTellsSaid : Prop := unfoldTellsRow.holds Try.pinned (OpenSpec.ofChange unfoldTellsSpec)

/-- ITS FALSE NEIGHBOUR: 'it returns false'. Refute it at one input. -/
def unfoldTellsWrong : ChangeSpec := { name := "unfoldTells", fn := fun _ => fun
  | [d1, d2] => { results := [.lit (.bool false)], args := [d1, d2] }
  | _ => none }
def UnfoldTellsWrongFalsely : Prop := unfoldTellsRow.holds Try.pinned (OpenSpec.ofChange unfoldTellsWrong)

/-- 'haymowlaw08.UnfoldOther': WHATEVER THE INPUT: true; the input reads as it did. -/
def unfoldOtherSpec : ChangeSpec := { name := "unfoldOther", fn := fun _ => fun
  | [d1, d2] => { results := [.lit (.bool true)], args := [d1, d2] }
  | _ => none }
def unfoldOtherRow : OpenClaim := { program := "ytbekjccehhaljaa", sum := "4153b5d9f29f6d6e5da4ebc72796c494c0277afb0f275b62986f3ec17b4eec67", func := "haymow/haymowlaw08.UnfoldOther", spec := "unfoldOther", unfollowed := true, recurses := true, apart := false }
def UnfoldOtherSaid : Prop := unfoldOtherRow.holds Try.pinned (OpenSpec.ofChange unfoldOtherSpec)

/-- ITS FALSE NEIGHBOUR: 'it returns false'. Refute it at one input. -/
def unfoldOtherWrong : ChangeSpec := { name := "unfoldOther", fn := fun _ => fun
  | [d1, d2] => { results := [.lit (.bool false)], args := [d1, d2] }
  | _ => none }
def UnfoldOtherWrongFalsely : Prop := unfoldOtherRow.holds Try.pinned (OpenSpec.ofChange unfoldOtherWrong)

/-- 'haymowlaw08.UnfoldNeeds': WHATEVER THE INPUT: true; the input reads as it did. -/
def unfoldNeedsSpec : ChangeSpec := { name := "unfoldNeeds", fn := fun _ => fun
  | [d] => { results := [.lit (.bool true)], args := [d] }
  | _ => none }
def unfoldNeedsRow : OpenClaim := { program := "ytbekjccehhaljaa", sum := "4153b5d9f29f6d6e5da4ebc72796c494c0277afb0f275b62986f3ec17b4eec67", func := "haymow/haymowlaw08.UnfoldNeeds", spec := "unfoldNeeds", unfollowed := true, recurses := true, apart := false }
def UnfoldNeedsSaid : Prop := unfoldNeedsRow.holds Try.pinned (OpenSpec.ofChange unfoldNeedsSpec)

/-- ITS FALSE NEIGHBOUR: 'it returns false'. Refute it at one input. -/
def unfoldNeedsWrong : ChangeSpec := { name := "unfoldNeeds", fn := fun _ => fun
  | [d] => { results := [.lit (.bool false)], args := [d] }
  | _ => none }
def UnfoldNeedsWrongFalsely : Prop := unfoldNeedsRow.holds Try.pinned (OpenSpec.ofChange unfoldNeedsWrong)

/-- 'haymowlaw08.UnfoldMerges': WHATEVER THE INPUT: true; the input reads as it did. -/
def unfoldMergesSpec : ChangeSpec := { name := "unfoldMerges", fn := fun _ => fun
  | [d] => { results := [.lit (.bool true)], args := [d] }
  | _ => none }
def unfoldMergesRow : OpenClaim := { program := "ytbekjccehhaljaa", sum := "4153b5d9f29f6d6e5da4ebc72796c494c0277afb0f275b62986f3ec17b4eec67", func := "haymow/haymowlaw08.UnfoldMerges", spec := "unfoldMerges", unfollowed := true, recurses := true, apart := false }
def UnfoldMergesSaid : Prop := unfoldMergesRow.holds Try.pinned (OpenSpec.ofChange unfoldMergesSpec)

/-- ITS FALSE NEIGHBOUR: 'it returns false'. Refute it at one input. -/
def unfoldMergesWrong : ChangeSpec := { name := "unfoldMerges", fn := fun _ => fun
  | [d] => { results := [.lit (.bool false)], args := [d] }
  | _ => none }
def UnfoldMergesWrongFalsely : Prop := unfoldMergesRow.holds Try.pinned (OpenSpec.ofChange unfoldMergesWrong)

/-- 'haymowlaw08.UnfoldAlone': WHATEVER THE INPUT: true; the input reads as it did. -/
def unfoldAloneSpec : ChangeSpec := { name := "unfoldAlone", fn := fun _ => fun
  | [d] => { results := [.lit (.bool true)], args := [d] }
  | _ => none }
def unfoldAloneRow : OpenClaim := { program := "ytbekjccehhaljaa", sum := "4153b5d9f29f6d6e5da4ebc72796c494c0277afb0f275b62986f3ec17b4eec67", func := "haymow/haymowlaw08.UnfoldAlone", spec := "unfoldAlone", unfollowed := true, recurses := true, apart := false }
def UnfoldAloneSaid : Prop := unfoldAloneRow.holds Try.pinned (OpenSpec.ofChange unfoldAloneSpec)

/-- ITS FALSE NEIGHBOUR: 'it returns false'. Refute it at one input. -/
def unfoldAloneWrong : ChangeSpec := { name := "unfoldAlone", fn := fun _ => fun
  | [d] => { results := [.lit (.bool false)], args := [d] }
  | _ => none }
def UnfoldAloneWrongFalsely : Prop := unfoldAloneRow.holds Try.pinned (OpenSpec.ofChange unfoldAloneWrong)

/-- 'haymowlaw08.UnfoldCovers': WHATEVER THE INPUT: true; the input reads as it did. -/
def unfoldCoversSpec : ChangeSpec := { name := "unfoldCovers", fn := fun _ => fun
  | [d] => { results := [.lit (.bool true)], args := [d] }
  | _ => none }
def unfoldCoversRow : OpenClaim := { program := "ytbekjccehhaljaa", sum := "4153b5d9f29f6d6e5da4ebc72796c494c0277afb0f275b62986f3ec17b4eec67", func := "haymow/haymowlaw08.UnfoldCovers", spec := "unfoldCovers", unfollowed := true, recurses := true, apart := false }
def UnfoldCoversSaid : Prop := unfoldCoversRow.holds Try.pinned (OpenSpec.ofChange unfoldCoversSpec)

/-- ITS FALSE NEIGHBOUR: 'it returns false'. Refute it at one input. -/
def unfoldCoversWrong : ChangeSpec := { name := "unfoldCovers", fn := fun _ => fun
  | [d] => { results := [.lit (.bool false)], args := [d] }
  | _ => none }
def UnfoldCoversWrongFalsely : Prop := unfoldCoversRow.holds Try.pinned (OpenSpec.ofChange unfoldCoversWrong)

/- THE SECOND FORM. 'bulk': how many values and letters a reading holds, each counted each time it is reached (what is shared counts as often as it is met; a slice's spare places count too). A statement '..UptoSaid' is the law's where the arguments, and the package variables that the reading takes, are together of bulk at most 1048576: NARROWER than '..Said'. Prove '..Said' where nothing that the law and all that it calls make is longer than what came in: it says more and counts as full. Else prove '..UptoSaid'. A law counts once. -/
mutual
def uptoBulk {H : Type} : DataW H → Nat
  | .lit (.string bytes) => bytes.length + 1
  | .lit _ => 1
  | .nil => 1
  | .ptr d => uptoBulk d + 1
  | .slice elems spare => uptoBulkAll elems + uptoBulkAll spare + 1
  | .agg parts => uptoBulkAll parts + 1
  | .iface _ d => uptoBulk d + 1
  | .map entries => uptoBulkEntries entries + 1
  | .held _ => 1
def uptoBulkAll {H : Type} : List (DataW H) → Nat
  | [] => 0
  | d :: r => uptoBulk d + uptoBulkAll r
def uptoBulkEntries {H : Type} : List (Lit × DataW H) → Nat
  | [] => 0
  | x :: r => uptoBulkEntry x + uptoBulkEntries r
def uptoBulkEntry {H : Type} : Lit × DataW H → Nat
  | (.string bytes, d) => bytes.length + uptoBulk d + 1
  | (_, d) => uptoBulk d + 1
 end
def uptoSmall : (H : Type) → List (DataW H) → Bool := fun _ ds => decide (uptoBulkAll ds ≤ 1048576)
def OpenSpec.upto (s : _root_.Go.ChangeSpec) : _root_.Go.OpenSpec := { _root_.Go.OpenSpec.ofChange s with cond := some uptoSmall }

/-- 'haymowlaw08.UnfoldTells', WHERE WHAT IT READS IS OF BULK AT MOST 1048576: true; the input reads as it did. -/
def unfoldTellsUptoRow : OpenClaim := { program := "ytbekjccehhaljaa", sum := "4153b5d9f29f6d6e5da4ebc72796c494c0277afb0f275b62986f3ec17b4eec67", func := "haymow/haymowlaw08.UnfoldTells", spec := "unfoldTells", unfollowed := true, recurses := true, apart := false, narrowed := true }
def UnfoldTellsUptoSaid : Prop := unfoldTellsUptoRow.holds Try.pinned (OpenSpec.upto unfoldTellsSpec)

/-- 'haymowlaw08.UnfoldOther', WHERE WHAT IT READS IS OF BULK AT MOST 1048576: true; the input reads as it did. -/
def unfoldOtherUptoRow : OpenClaim := { program := "ytbekjccehhaljaa", sum := "4153b5d9f29f6d6e5da4ebc72796c494c0277afb0f275b62986f3ec17b4eec67", func := "haymow/haymowlaw08.UnfoldOther", spec := "unfoldOther", unfollowed := true, recurses := true, apart := false, narrowed := true }
def UnfoldOtherUptoSaid : Prop := unfoldOtherUptoRow.holds Try.pinned (OpenSpec.upto unfoldOtherSpec)

/-- 'haymowlaw08.UnfoldNeeds', WHERE WHAT IT READS IS OF BULK AT MOST 1048576: true; the input reads as it did. -/
def unfoldNeedsUptoRow : OpenClaim := { program := "ytbekjccehhaljaa", sum := "4153b5d9f29f6d6e5da4ebc72796c494c0277afb0f275b62986f3ec17b4eec67", func := "haymow/haymowlaw08.UnfoldNeeds", spec := "unfoldNeeds", unfollowed := true, recurses := true, apart := false, narrowed := true }
def UnfoldNeedsUptoSaid : Prop := unfoldNeedsUptoRow.holds Try.pinned (OpenSpec.upto unfoldNeedsSpec)

/-- 'haymowlaw08.UnfoldMerges', WHERE WHAT IT READS IS OF BULK AT MOST 1048576: true; the input reads as it did. -/
def unfoldMergesUptoRow : OpenClaim := { program := "ytbekjccehhaljaa", sum := "4153b5d9f29f6d6e5da4ebc72796c494c0277afb0f275b62986f3ec17b4eec67", func := "haymow/haymowlaw08.UnfoldMerges", spec := "unfoldMerges", unfollowed := true, recurses := true, apart := false, narrowed := true }
def UnfoldMergesUptoSaid : Prop := unfoldMergesUptoRow.holds Try.pinned (OpenSpec.upto unfoldMergesSpec)

/-- 'haymowlaw08.UnfoldAlone', WHERE WHAT IT READS IS OF BULK AT MOST 1048576: true; the input reads as it did. -/
def unfoldAloneUptoRow : OpenClaim := { program := "ytbekjccehhaljaa", sum := "4153b5d9f29f6d6e5da4ebc72796c494c0277afb0f275b62986f3ec17b4eec67", func := "haymow/haymowlaw08.UnfoldAlone", spec := "unfoldAlone", unfollowed := true, recurses := true, apart := false, narrowed := true }
def UnfoldAloneUptoSaid : Prop := unfoldAloneUptoRow.holds Try.pinned (OpenSpec.upto unfoldAloneSpec)

/-- 'haymowlaw08.UnfoldCovers', WHERE WHAT IT READS IS OF BULK AT MOST 1048576: true; the input reads as it did. -/
def unfoldCoversUptoRow : OpenClaim := { program := "ytbekjccehhaljaa", sum := "4153b5d9f29f6d6e5da4ebc72796c494c0277afb0f275b62986f3ec17b4eec67", func := "haymow/haymowlaw08.UnfoldCovers", spec := "unfoldCovers", unfollowed := true, recurses := true, apart := false, narrowed := true }
def UnfoldCoversUptoSaid : Prop := unfoldCoversUptoRow.holds Try.pinned (OpenSpec.upto unfoldCoversSpec)

end Rows
end Go.Proofs.Ytbekjccehhaljaa
