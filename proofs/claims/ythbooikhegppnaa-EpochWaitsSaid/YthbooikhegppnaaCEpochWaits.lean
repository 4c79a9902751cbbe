/- Nothing goes while somebody may look: ahead of a thing's going each worker has announced since it was retired, for every input. No condition. -/
import Derived.Test.YthbooikhegppnaaRowEpochWaits
namespace Go.Proofs.Ythbooikhegppnaa
open Go.RowKit
theorem u8_wf {a : Int} (h : (Lit.int .u8 a).wf = true) : 0 ≤ a ∧ a ≤ 255 := by
  have e1 : IntKind.u8.min = 0 := by decide
  have e2 : IntKind.u8.max = 255 := by decide
  have h' : IntKind.u8.min ≤ a ∧ a ≤ IntKind.u8.max := by simpa [Lit.wf, go_sem] using h
  rwa [e1, e2] at h'
theorem epochWaits_holds : Rows.EpochWaitsSaid := epochWaits.said (fun a0 l1 h0 h1 => by
  unfold H.haymowlaw11_EpochWaits.f
  rw [if_pos (u8_wf h0)])
#print axioms epochWaits_holds
end Go.Proofs.Ythbooikhegppnaa
