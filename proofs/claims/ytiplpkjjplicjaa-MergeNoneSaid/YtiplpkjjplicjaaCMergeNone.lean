/- A node that is not there may not be, nor one with a kid that is not there, nor one of more than 30 one below the other: for every input. No condition. -/
import Derived.Test.YtiplpkjjplicjaaRowMergeNone
namespace Go.Proofs.Ytiplpkjjplicjaa
open Go.RowKit
theorem mergeNone_holds : Rows.MergeNoneSaid := mergeNone.said (fun a0 h => by
  have e1 : IntKind.u8.min = 0 := by decide
  have e2 : IntKind.u8.max = 255 := by decide
  have h' : IntKind.u8.min ≤ a0 ∧ a0 ≤ IntKind.u8.max := by simpa [Lit.wf, go_sem] using h
  rw [e1, e2] at h'
  unfold H.haymowlaw07_MergeNone.f
  rw [if_pos h'])
#print axioms mergeNone_holds
end Go.Proofs.Ytiplpkjjplicjaa
