/-
  No cell of these rows narrows 'for every input' (looked for: loops, veiled, ifaces, maps, wideKeys, modest, calm, conditions, laid).
  DERIVED. THE GIVEN ROWS OF THIS SEAT. 6 by the template 'for every input the law returns true; each argument reads behind the call as it read before'; 0 by the template 'total and deterministic' (their statements: YtcciejcpijlkfaaTotals.lean).
  GIVEN WITH THE SEED: the statements are not yours to turn. If you find one false, say at which input.
  Laid BY PROGRAM, IN A SANDBOX (cutbox-rows.mjs): the forced cells as the released guide's own fill.sh prints them over the translation b0bcb2f0d97b0f21… (all of the seat's roots in one cut). By AI agents, Wed Nov 11 2026. No macro, syntax, notation, axiom, sorry.
-/
import Derived.Test.YtcciejcpijlkfaaChecked
import GoSem.Claim
import GoSem.ClaimJoined
import GoSem.ClaimMapViews
import Derived.JoinedTies
import Derived.KernelRfl
namespace Go.Proofs.Ytcciejcpijlkfaa
/- THE CELL 'sum', in the pinned program and in every row, IS THE sha256 OF THE DUMP (.gsa) THAT YtcciejcpijlkfaaProg.lean LOADS. Nothing in Lean hashes anything: it is a label: what it is worth is what the hold of that sum in a sandbox is worth. -/
noncomputable def Try.pinned : Pinned := { name := "ytcciejcpijlkfaa", sum := "b0bcb2f0d97b0f21fc827d9ff00ff331830f8f04078f67a252c58bc3e34a7694", checked := Try.checked }
namespace Rows
def none {H : Type} : Left H := { results := [], args := [] }

/-- 'haymowlaw12.FrameExecs': WHATEVER THE INPUT: true; the input reads as it did. -/
def frameExecsSpec : ChangeSpec := { name := "frameExecs", fn := fun _ => fun
  | [d] => { results := [.lit (.bool true)], args := [d] }
  | _ => none }
def frameExecsRow : OpenClaim := { program := "ytcciejcpijlkfaa", sum := "b0bcb2f0d97b0f21fc827d9ff00ff331830f8f04078f67a252c58bc3e34a7694", func := "haymow/haymowlaw12.FrameExecs", spec := "frameExecs", unfollowed := true, recurses := true, apart := false }
def FrameExecsSaid : Prop := frameExecsRow.holds Try.pinned (OpenSpec.ofChange frameExecsSpec)

/-- ITS FALSE NEIGHBOUR: 'it returns false'. Refute it at one input. -/
def frameExecsWrong : ChangeSpec := { name := "frameExecs", fn := fun _ => fun
  | [d] => { results := [.lit (.bool false)], args := [d] }
  | _ => none }
def FrameExecsWrongFalsely : Prop := frameExecsRow.holds Try.pinned (OpenSpec.ofChange frameExecsWrong)

/-- 'haymowlaw12.FrameNew': WHATEVER THE INPUT: true; the input reads as it did. -/
def frameNewSpec : ChangeSpec := { name := "frameNew", fn := fun _ => fun
  | [d] => { results := [.lit (.bool true)], args := [d] }
  | _ => none }
def frameNewRow : OpenClaim := { program := "ytcciejcpijlkfaa", sum := "b0bcb2f0d97b0f21fc827d9ff00ff331830f8f04078f67a252c58bc3e34a7694", func := "haymow/haymowlaw12.FrameNew", spec := "frameNew", unfollowed := true, recurses := true, apart := false }
def FrameNewSaid : Prop := frameNewRow.holds Try.pinned (OpenSpec.ofChange frameNewSpec)

/-- ITS FALSE NEIGHBOUR: 'it returns false'. Refute it at one input. -/
def frameNewWrong : ChangeSpec := { name := "frameNew", fn := fun _ => fun
  | [d] => { results := [.lit (.bool false)], args := [d] }
  | _ => none }
def FrameNewWrongFalsely : Prop := frameNewRow.holds Try.pinned (OpenSpec.ofChange frameNewWrong)

/-- 'haymowlaw12.FrameCounts': WHATEVER THE INPUT: true; the input reads as it did. -/
def frameCountsSpec : ChangeSpec := { name := "frameCounts", fn := fun _ => fun
  | [d] => { results := [.lit (.bool true)], args := [d] }
  | _ => none }
def frameCountsRow : OpenClaim := { program := "ytcciejcpijlkfaa", sum := "b0bcb2f0d97b0f21fc827d9ff00ff331830f8f04078f67a252c58bc3e34a7694", func := "haymow/haymowlaw12.FrameCounts", spec := "frameCounts", unfollowed := true, recurses := true, apart := false }
def FrameCountsSaid : Prop := frameCountsRow.holds Try.pinned (OpenSpec.ofChange frameCountsSpec)

/-- ITS FALSE NEIGHBOUR: 'it returns false'. Refute it at one input. -/
def frameCountsWrong : ChangeSpec := { name := "frameCounts", fn := fun _ => fun
  | [d] => { results := [.lit (.bool false)], args := [d] }
  | _ => none }
def FrameCountsWrongFalsely : Prop := frameCountsRow.holds Try.pinned (OpenSpec.ofChange frameCountsWrong)

/-- 'haymowlaw12.FrameJumps': WHATEVER THE INPUT: true; the input reads as it did. -/
def frameJumpsSpec : ChangeSpec := { name := "frameJumps", fn := fun _ => fun
  | [d] => { results := [.lit (.bool true)], args := [d] }
  | _ => none }
def frameJumpsRow : OpenClaim := { program := "ytcciejcpijlkfaa", sum := "b0bcb2f0d97b0f21fc827d9ff00ff331830f8f04078f67a252c58bc3e34a7694", func := "haymow/haymowlaw12.FrameJumps", spec := "frameJumps", unfollowed := true, recurses := true, apart := false }
def FrameJumpsSaid : Prop := frameJumpsRow.holds Try.pinned (OpenSpec.ofChange frameJumpsSpec)

/-- ITS FALSE NEIGHBOUR: 'it returns false'. Refute it at one input. -/
def frameJumpsWrong : ChangeSpec := { name := "frameJumps", fn := fun _ => fun
  | [d] => { results := [.lit (.bool false)], args := [d] }
  | _ => none }
def FrameJumpsWrongFalsely : Prop := frameJumpsRow.holds Try.pinned (OpenSpec.ofChange frameJumpsWrong)

/-- 'haymowlaw12.FrameBegins': WHATEVER THE INPUT: true; the input reads as it did. -/
def frameBeginsSpec : ChangeSpec := { name := "frameBegins", fn := fun _ => fun
  | [d] => { results := [.lit (.bool true)], args := [d] }
  | _ => none }
def frameBeginsRow : OpenClaim := { program := "ytcciejcpijlkfaa", sum := "b0bcb2f0d97b0f21fc827d9ff00ff331830f8f04078f67a252c58bc3e34a7694", func := "haymow/haymowlaw12.FrameBegins", spec := "frameBegins", unfollowed := true, recurses := true, apart := false }
def FrameBeginsSaid : Prop := frameBeginsRow.holds Try.pinned (OpenSpec.ofChange frameBeginsSpec)

/-- ITS FALSE NEIGHBOUR: 'it returns false'. Refute it at one input. -/
def frameBeginsWrong : ChangeSpec := { name := "frameBegins", fn := fun _ => fun
  | [d] => { results := [.lit (.bool false)], args := [d] }
  | _ => none }
def FrameBeginsWrongFalsely : Prop := frameBeginsRow.holds Try.pinned (OpenSpec.ofChange frameBeginsWrong)

/-- 'haymowlaw12.FrameDrives': WHATEVER THE INPUT: true; the input reads as it did. -/
def frameDrivesSpec : ChangeSpec := { name := "frameDrives", fn := fun _ => fun
  | [d] => { results := [.lit (.bool true)], args := [d] }
  | _ => none }
def frameDrivesRow : OpenClaim := { program := "ytcciejcpijlkfaa", sum := "b0bcb2f0d97b0f21fc827d9ff00ff331830f8f04078f67a252c58bc3e34a7694", func := "haymow/haymowlaw12.FrameDrives", spec := "frameDrives", unfollowed := true, recurses := true, apart := false }
def FrameDrivesSaid : Prop := frameDrivesRow.holds Try.pinned (OpenSpec.ofChange frameDrivesSpec)

/-- ITS FALSE NEIGHBOUR: 'it returns false'. Refute it at one input. -/
def frameDrivesWrong : ChangeSpec := { name := "frameDrives", fn := fun _ => fun
  | [d] => { results := [.lit (.bool false)], args := [d] }
  | _ => none }
def FrameDrivesWrongFalsely : Prop := frameDrivesRow.holds Try.pinned (OpenSpec.ofChange frameDrivesWrong)

/- THE SECOND FORM. 'bulk': how many values and letters a reading holds, each counted each time it is reached (what is shared counts as often as it is met; a slice's spare places count too). A statement '..UptoSaid' is the law's where the arguments, and the package variables that the reading takes, are together of bulk at most 1048576: NARROWER than '..Said'. Prove '..Said' where nothing that the law and all that it calls make is longer than what came in: it says more and counts as full. Else prove '..UptoSaid'. A law counts once. -/
mutual
def uptoBulk {H : Type} : DataW H → Nat
  | .lit (.string bytes) => bytes.length + 1
  | .lit _ => 1
  | .nil => 1
  | .ptr d => uptoBulk d + 1
  | .slice elems spare => uptoBulkAll elems + uptoBulkAll spare + 1
  | .agg parts => uptoBulkAll parts + 1
  | .iface _ d => uptoBulk d + 1
  | .map entries => uptoBulkEntries entries + 1
  | .held _ => 1
def uptoBulkAll {H : Type} : List (DataW H) → Nat
  | [] => 0
  | d :: r => uptoBulk d + uptoBulkAll r
def uptoBulkEntries {H : Type} : List (Lit × DataW H) → Nat
  | [] => 0
  | x :: r => uptoBulkEntry x + uptoBulkEntries r
def uptoBulkEntry {H : Type} : Lit × DataW H → Nat
  | (.string bytes, d) => bytes.length + uptoBulk d + 1
  | (_, d) => uptoBulk d + 1
 end
def uptoSmall : (H : Type) → List (DataW H) → Bool := fun _ ds => decide (uptoBulkAll ds ≤ 1048576)
def OpenSpec.upto (s : _root_.Go.ChangeSpec) : _root_.Go.OpenSpec := { _root_.Go.OpenSpec.ofChange s with cond := some uptoSmall }

/-- 'haymowlaw12.FrameExecs', WHERE WHAT IT READS IS OF BULK AT MOST 1048576: true; the input reads as it did. -/
def frameExecsUptoRow : OpenClaim := { program := "ytcciejcpijlkfaa", sum := "b0bcb2f0d97b0f21fc827d9ff00ff331830f8f04078f67a252c58bc3e34a7694", func := "haymow/haymowlaw12.FrameExecs", spec := "frameExecs", unfollowed := true, recurses := true, apart := false, narrowed := true }
def FrameExecsUptoSaid : Prop := frameExecsUptoRow.holds Try.pinned (OpenSpec.upto frameExecsSpec)

/-- 'haymowlaw12.FrameNew', WHERE WHAT IT READS IS OF BULK AT MOST 1048576: true; the input reads as it did. -/
def frameNewUptoRow : OpenClaim := { program := "ytcciejcpijlkfaa", sum := "b0bcb2f0d97b0f21fc827d9ff00ff331830f8f04078f67a252c58bc3e34a7694", func := "haymow/haymowlaw12.FrameNew", spec := "frameNew", unfollowed := true, recurses := true, apart := false, narrowed := true }
def FrameNewUptoSaid : Prop := frameNewUptoRow.holds Try.pinned (OpenSpec.upto frameNewSpec)

/-- 'haymowlaw12.FrameCounts', WHERE WHAT IT READS IS OF BULK AT MOST 1048576: true; the input reads as it did. -/
def frameCountsUptoRow : OpenClaim := { program := "ytcciejcpijlkfaa", sum := "b0bcb2f0d97b0f21fc827d9ff00ff331830f8f04078f67a252c58bc3e34a7694", func := "haymow/haymowlaw12.FrameCounts", spec := "frameCounts", unfollowed := true, recurses := true, apart := false, narrowed := true }
def FrameCountsUptoSaid : Prop := frameCountsUptoRow.holds Try.pinned (OpenSpec.upto frameCountsSpec)

/-- 'haymowlaw12.FrameJumps', WHERE WHAT IT READS IS OF BULK AT MOST 1048576: true; the input reads as it did. -/
def frameJumpsUptoRow : OpenClaim := { program := "ytcciejcpijlkfaa", sum := "b0bcb2f0d97b0f21fc827d9ff00ff331830f8f04078f67a252c58bc3e34a7694", func := "haymow/haymowlaw12.FrameJumps", spec := "frameJumps", unfollowed := true, recurses := true, apart := false, narrowed := true }
def FrameJumpsUptoSaid : Prop := frameJumpsUptoRow.holds Try.pinned (OpenSpec.upto frameJumpsSpec)

/-- 'haymowlaw12.FrameBegins', WHERE WHAT IT READS IS OF BULK AT MOST 1048576: true; the input reads as it did. -/
def frameBeginsUptoRow : OpenClaim := { program := "ytcciejcpijlkfaa", sum := "b0bcb2f0d97b0f21fc827d9ff00ff331830f8f04078f67a252c58bc3e34a7694", func := "haymow/haymowlaw12.FrameBegins", spec := "frameBegins", unfollowed := true, recurses := true, apart := false, narrowed := true }
def FrameBeginsUptoSaid : Prop := frameBeginsUptoRow.holds Try.pinned (OpenSpec.upto frameBeginsSpec)

/-- 'haymowlaw12.FrameDrives', WHERE WHAT IT READS IS OF BULK AT MOST 1048576: true; the input reads as it did. -/
def frameDrivesUptoRow : OpenClaim := { program := "ytcciejcpijlkfaa", sum := "b0bcb2f0d97b0f21fc827d9ff00ff331830f8f04078f67a252c58bc3e34a7694", func := "haymow/haymowlaw12.FrameDrives", spec := "frameDrives", unfollowed := true, recurses := true, apart := false, narrowed := true }
def FrameDrivesUptoSaid : Prop := frameDrivesUptoRow.holds Try.pinned (OpenSpec.upto frameDrivesSpec)

end Rows
end Go.Proofs.Ytcciejcpijlkfaa
