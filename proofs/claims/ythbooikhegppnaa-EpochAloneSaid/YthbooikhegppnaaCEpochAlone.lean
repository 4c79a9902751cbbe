/- While one worker does not announce, the epoch goes on by one at most: for every input. No condition. -/
import Derived.Test.YthbooikhegppnaaRowEpochAlone
namespace Go.Proofs.Ythbooikhegppnaa
open Go.RowKit
theorem u8_wf {a : Int} (h : (Lit.int .u8 a).wf = true) : 0 ≤ a ∧ a ≤ 255 := by
  have e1 : IntKind.u8.min = 0 := by decide
  have e2 : IntKind.u8.max = 255 := by decide
  have h' : IntKind.u8.min ≤ a ∧ a ≤ IntKind.u8.max := by simpa [Lit.wf, go_sem] using h
  rwa [e1, e2] at h'
theorem epochAlone_holds : Rows.EpochAloneSaid := epochAlone.said (fun a0 a1 a2 h0 h1 h2 => by
  unfold H.haymowlaw11_EpochAlone.f
  rw [if_pos ⟨u8_wf h0, u8_wf h1, u8_wf h2⟩])
#print axioms epochAlone_holds
end Go.Proofs.Ythbooikhegppnaa
