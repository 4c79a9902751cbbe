/- What any acts do, one by one, is what the document says: for every input. No condition. -/
import Derived.Test.YthbooikhegppnaaRowEpochActs
namespace Go.Proofs.Ythbooikhegppnaa
open Go.RowKit
theorem u8_wf {a : Int} (h : (Lit.int .u8 a).wf = true) : 0 ≤ a ∧ a ≤ 255 := by
  have e1 : IntKind.u8.min = 0 := by decide
  have e2 : IntKind.u8.max = 255 := by decide
  have h' : IntKind.u8.min ≤ a ∧ a ≤ IntKind.u8.max := by simpa [Lit.wf, go_sem] using h
  rwa [e1, e2] at h'
theorem epochActs_holds : Rows.EpochActsSaid := epochActs.said (fun a0 l1 h0 h1 => by
  unfold H.haymowlaw11_EpochActs.f
  rw [if_pos (u8_wf h0)])
#print axioms epochActs_holds
end Go.Proofs.Ythbooikhegppnaa
