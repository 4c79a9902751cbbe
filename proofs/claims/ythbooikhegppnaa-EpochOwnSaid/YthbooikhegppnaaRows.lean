/-
  No cell of these rows narrows 'for every input' (looked for: loops, veiled, ifaces, maps, wideKeys, modest, calm, conditions, laid).
  DERIVED. THE GIVEN ROWS OF THIS SEAT. 6 by the template 'for every input the law returns true; each argument reads behind the call as it read before'; 0 by the template 'total and deterministic' (their statements: YthbooikhegppnaaTotals.lean).
  GIVEN WITH THE SEED: the statements are not yours to turn. If you find one false, say at which input.
  Laid BY PROGRAM, IN A SANDBOX (cutbox-rows.mjs): the forced cells as the released guide's own fill.sh prints them over the translation bc2991d50b2735b2… (all of the seat's roots in one cut). By AI agents, Wed Nov 11 2026. No macro, syntax, notation, axiom, sorry.
-/
import Derived.Test.YthbooikhegppnaaChecked
import GoSem.Claim
import GoSem.ClaimJoined
import GoSem.ClaimMapViews
import Derived.JoinedTies
import Derived.KernelRfl
namespace Go.Proofs.Ythbooikhegppnaa
/- THE CELL 'sum', in the pinned program and in every row, IS THE sha256 OF THE DUMP (.gsa) THAT YthbooikhegppnaaProg.lean LOADS. Nothing in Lean hashes anything: it is a label: what it is worth is what the hold of that sum in a sandbox is worth. -/
noncomputable def Try.pinned : Pinned := { name := "ythbooikhegppnaa", sum := "bc2991d50b2735b207f0c8c7574cecc07692ddf66fc56a1201d9edef2c4715a4", checked := Try.checked }
namespace Rows
def none {H : Type} : Left H := { results := [], args := [] }

/-- 'haymowlaw11.EpochWaits': WHATEVER THE INPUT: true; the input reads as it did. -/
def epochWaitsSpec : ChangeSpec := { name := "epochWaits", fn := fun _ => fun
  | [d1, d2] => { results := [.lit (.bool true)], args := [d1, d2] }
  | _ => none }
def epochWaitsRow : OpenClaim := { program := "ythbooikhegppnaa", sum := "bc2991d50b2735b207f0c8c7574cecc07692ddf66fc56a1201d9edef2c4715a4", func := "haymow/haymowlaw11.EpochWaits", spec := "epochWaits", unfollowed := true, recurses := true, apart := false }
def EpochWaitsSaid : Prop := epochWaitsRow.holds Try.pinned (OpenSpec.ofChange epochWaitsSpec)

/-- ITS FALSE NEIGHBOUR: 'it returns false'. Refute it at one input. -/
def epochWaitsWrong : ChangeSpec := { name := "epochWaits", fn := fun _ => fun
  | [d1, d2] => { results := [.lit (.bool false)], args := [d1, d2] }
  | _ => none }
def EpochWaitsWrongFalsely : Prop := epochWaitsRow.holds Try.pinned (OpenSpec.ofChange epochWaitsWrong)

/-- 'haymowlaw11.EpochOwn': WHATEVER THE INPUT: true; the input reads as it did. -/
def epochOwnSpec : ChangeSpec := { name := "epochOwn", fn := fun _ => fun
  | [d1, d2] => { results := [.lit (.bool true)], args := [d1, d2] }
  | _ => none }
def epochOwnRow : OpenClaim := { program := "ythbooikhegppnaa", sum := "bc2991d50b2735b207f0c8c7574cecc07692ddf66fc56a1201d9edef2c4715a4", func := "haymow/haymowlaw11.EpochOwn", spec := "epochOwn", unfollowed := true, recurses := true, apart := false }
def EpochOwnSaid : Prop := epochOwnRow.holds Try.pinned (OpenSpec.ofChange epochOwnSpec)

/-- ITS FALSE NEIGHBOUR: 'it returns false'. Refute it at one input. -/
def epochOwnWrong : ChangeSpec := { name := "epochOwn", fn := fun _ => fun
  | [d1, d2] => { results := [.lit (.bool false)], args := [d1, d2] }
  | _ => none }
def EpochOwnWrongFalsely : Prop := epochOwnRow.holds Try.pinned (OpenSpec.ofChange epochOwnWrong)

/-- 'haymowlaw11.EpochActs': WHATEVER THE INPUT: true; the input reads as it did. -/
def epochActsSpec : ChangeSpec := { name := "epochActs", fn := fun _ => fun
  | [d1, d2] => { results := [.lit (.bool true)], args := [d1, d2] }
  | _ => none }
def epochActsRow : OpenClaim := { program := "ythbooikhegppnaa", sum := "bc2991d50b2735b207f0c8c7574cecc07692ddf66fc56a1201d9edef2c4715a4", func := "haymow/haymowlaw11.EpochActs", spec := "epochActs", unfollowed := true, recurses := true, apart := false }
def EpochActsSaid : Prop := epochActsRow.holds Try.pinned (OpenSpec.ofChange epochActsSpec)

/-- ITS FALSE NEIGHBOUR: 'it returns false'. Refute it at one input. -/
def epochActsWrong : ChangeSpec := { name := "epochActs", fn := fun _ => fun
  | [d1, d2] => { results := [.lit (.bool false)], args := [d1, d2] }
  | _ => none }
def EpochActsWrongFalsely : Prop := epochActsRow.holds Try.pinned (OpenSpec.ofChange epochActsWrong)

/-- 'haymowlaw11.EpochNew': WHATEVER THE INPUT: true; the input reads as it did. -/
def epochNewSpec : ChangeSpec := { name := "epochNew", fn := fun _ => fun
  | [d] => { results := [.lit (.bool true)], args := [d] }
  | _ => none }
def epochNewRow : OpenClaim := { program := "ythbooikhegppnaa", sum := "bc2991d50b2735b207f0c8c7574cecc07692ddf66fc56a1201d9edef2c4715a4", func := "haymow/haymowlaw11.EpochNew", spec := "epochNew", unfollowed := true, recurses := true, apart := false }
def EpochNewSaid : Prop := epochNewRow.holds Try.pinned (OpenSpec.ofChange epochNewSpec)

/-- ITS FALSE NEIGHBOUR: 'it returns false'. Refute it at one input. -/
def epochNewWrong : ChangeSpec := { name := "epochNew", fn := fun _ => fun
  | [d] => { results := [.lit (.bool false)], args := [d] }
  | _ => none }
def EpochNewWrongFalsely : Prop := epochNewRow.holds Try.pinned (OpenSpec.ofChange epochNewWrong)

/-- 'haymowlaw11.EpochGoes': WHATEVER THE INPUT: true; the input reads as it did. -/
def epochGoesSpec : ChangeSpec := { name := "epochGoes", fn := fun _ => fun
  | [d1, d2] => { results := [.lit (.bool true)], args := [d1, d2] }
  | _ => none }
def epochGoesRow : OpenClaim := { program := "ythbooikhegppnaa", sum := "bc2991d50b2735b207f0c8c7574cecc07692ddf66fc56a1201d9edef2c4715a4", func := "haymow/haymowlaw11.EpochGoes", spec := "epochGoes", unfollowed := true, recurses := true, apart := false }
def EpochGoesSaid : Prop := epochGoesRow.holds Try.pinned (OpenSpec.ofChange epochGoesSpec)

/-- ITS FALSE NEIGHBOUR: 'it returns false'. Refute it at one input. -/
def epochGoesWrong : ChangeSpec := { name := "epochGoes", fn := fun _ => fun
  | [d1, d2] => { results := [.lit (.bool false)], args := [d1, d2] }
  | _ => none }
def EpochGoesWrongFalsely : Prop := epochGoesRow.holds Try.pinned (OpenSpec.ofChange epochGoesWrong)

/-- 'haymowlaw11.EpochAlone': WHATEVER THE INPUT: true; the input reads as it did. -/
def epochAloneSpec : ChangeSpec := { name := "epochAlone", fn := fun _ => fun
  | [d1, d2, d3] => { results := [.lit (.bool true)], args := [d1, d2, d3] }
  | _ => none }
def epochAloneRow : OpenClaim := { program := "ythbooikhegppnaa", sum := "bc2991d50b2735b207f0c8c7574cecc07692ddf66fc56a1201d9edef2c4715a4", func := "haymow/haymowlaw11.EpochAlone", spec := "epochAlone", unfollowed := true, recurses := true, apart := false }
def EpochAloneSaid : Prop := epochAloneRow.holds Try.pinned (OpenSpec.ofChange epochAloneSpec)

/-- ITS FALSE NEIGHBOUR: 'it returns false'. Refute it at one input. -/
def epochAloneWrong : ChangeSpec := { name := "epochAlone", fn := fun _ => fun
  | [d1, d2, d3] => { results := [.lit (.bool false)], args := [d1, d2, d3] }
  | _ => none }
def EpochAloneWrongFalsely : Prop := epochAloneRow.holds Try.pinned (OpenSpec.ofChange epochAloneWrong)

/- THE SECOND FORM. 'bulk': how many values and letters a reading holds, each counted each time it is reached (what is shared counts as often as it is met; a slice's spare places count too). A statement '..UptoSaid' is the law's where the arguments, and the package variables that the reading takes, are together of bulk at most 1048576: NARROWER than '..Said'. Prove '..Said' where nothing that the law and all that it calls make is longer than what came in: it says more and counts as full. Else prove '..UptoSaid'. A law counts once. -/
mutual
def uptoBulk {H : Type} : DataW H → Nat
  | .lit (.string bytes) => bytes.length + 1
  | .lit _ => 1
  | .nil => 1
  | .ptr d => uptoBulk d + 1
  | .slice elems spare => uptoBulkAll elems + uptoBulkAll spare + 1
  | .agg parts => uptoBulkAll parts + 1
  | .iface _ d => uptoBulk d + 1
  | .map entries => uptoBulkEntries entries + 1
  | .held _ => 1
def uptoBulkAll {H : Type} : List (DataW H) → Nat
  | [] => 0
  | d :: r => uptoBulk d + uptoBulkAll r
def uptoBulkEntries {H : Type} : List (Lit × DataW H) → Nat
  | [] => 0
  | x :: r => uptoBulkEntry x + uptoBulkEntries r
def uptoBulkEntry {H : Type} : Lit × DataW H → Nat
  | (.string bytes, d) => bytes.length + uptoBulk d + 1
  | (_, d) => uptoBulk d + 1
 end
def uptoSmall : (H : Type) → List (DataW H) → Bool := fun _ ds => decide (uptoBulkAll ds ≤ 1048576)
def OpenSpec.upto (s : _root_.Go.ChangeSpec) : _root_.Go.OpenSpec := { _root_.Go.OpenSpec.ofChange s with cond := some uptoSmall }

/-- 'haymowlaw11.EpochWaits', WHERE WHAT IT READS IS OF BULK AT MOST 1048576: true; the input reads as it did. -/
def epochWaitsUptoRow : OpenClaim := { program := "ythbooikhegppnaa", sum := "bc2991d50b2735b207f0c8c7574cecc07692ddf66fc56a1201d9edef2c4715a4", func := "haymow/haymowlaw11.EpochWaits", spec := "epochWaits", unfollowed := true, recurses := true, apart := false, narrowed := true }
def EpochWaitsUptoSaid : Prop := epochWaitsUptoRow.holds Try.pinned (OpenSpec.upto epochWaitsSpec)

/-- 'haymowlaw11.EpochOwn', WHERE WHAT IT READS IS OF BULK AT MOST 1048576: true; the input reads as it did. -/
def epochOwnUptoRow : OpenClaim := { program := "ythbooikhegppnaa", sum := "bc2991d50b2735b207f0c8c7574cecc07692ddf66fc56a1201d9edef2c4715a4", func := "haymow/haymowlaw11.EpochOwn", spec := "epochOwn", unfollowed := true, recurses := true, apart := false, narrowed := true }
def EpochOwnUptoSaid : Prop := epochOwnUptoRow.holds Try.pinned (OpenSpec.upto epochOwnSpec)

/-- 'haymowlaw11.EpochActs', WHERE WHAT IT READS IS OF BULK AT MOST 1048576: true; the input reads as it did. -/
def epochActsUptoRow : OpenClaim := { program := "ythbooikhegppnaa", sum := "bc2991d50b2735b207f0c8c7574cecc07692ddf66fc56a1201d9edef2c4715a4", func := "haymow/haymowlaw11.EpochActs", spec := "epochActs", unfollowed := true, recurses := true, apart := false, narrowed := true }
def EpochActsUptoSaid : Prop := epochActsUptoRow.holds Try.pinned (OpenSpec.upto epochActsSpec)

/-- 'haymowlaw11.EpochNew', WHERE WHAT IT READS IS OF BULK AT MOST 1048576: true; the input reads as it did. -/
def epochNewUptoRow : OpenClaim := { program := "ythbooikhegppnaa", sum := "bc2991d50b2735b207f0c8c7574cecc07692ddf66fc56a1201d9edef2c4715a4", func := "haymow/haymowlaw11.EpochNew", spec := "epochNew", unfollowed := true, recurses := true, apart := false, narrowed := true }
def EpochNewUptoSaid : Prop := epochNewUptoRow.holds Try.pinned (OpenSpec.upto epochNewSpec)

/-- 'haymowlaw11.EpochGoes', WHERE WHAT IT READS IS OF BULK AT MOST 1048576: true; the input reads as it did. -/
def epochGoesUptoRow : OpenClaim := { program := "ythbooikhegppnaa", sum := "bc2991d50b2735b207f0c8c7574cecc07692ddf66fc56a1201d9edef2c4715a4", func := "haymow/haymowlaw11.EpochGoes", spec := "epochGoes", unfollowed := true, recurses := true, apart := false, narrowed := true }
def EpochGoesUptoSaid : Prop := epochGoesUptoRow.holds Try.pinned (OpenSpec.upto epochGoesSpec)

/-- 'haymowlaw11.EpochAlone', WHERE WHAT IT READS IS OF BULK AT MOST 1048576: true; the input reads as it did. -/
def epochAloneUptoRow : OpenClaim := { program := "ythbooikhegppnaa", sum := "bc2991d50b2735b207f0c8c7574cecc07692ddf66fc56a1201d9edef2c4715a4", func := "haymow/haymowlaw11.EpochAlone", spec := "epochAlone", unfollowed := true, recurses := true, apart := false, narrowed := true }
def EpochAloneUptoSaid : Prop := epochAloneUptoRow.holds Try.pinned (OpenSpec.upto epochAloneSpec)

end Rows
end Go.Proofs.Ythbooikhegppnaa
