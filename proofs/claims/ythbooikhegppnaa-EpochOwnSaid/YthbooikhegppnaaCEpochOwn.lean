/- A worker is told its own things alone, in the order in which it retired them: for every input. No condition. -/
import Derived.Test.YthbooikhegppnaaRowEpochOwn
namespace Go.Proofs.Ythbooikhegppnaa
open Go.RowKit
theorem u8_wf {a : Int} (h : (Lit.int .u8 a).wf = true) : 0 ≤ a ∧ a ≤ 255 := by
  have e1 : IntKind.u8.min = 0 := by decide
  have e2 : IntKind.u8.max = 255 := by decide
  have h' : IntKind.u8.min ≤ a ∧ a ≤ IntKind.u8.max := by simpa [Lit.wf, go_sem] using h
  rwa [e1, e2] at h'
theorem epochOwn_holds : Rows.EpochOwnSaid := epochOwn.said (fun a0 l1 h0 h1 => by
  unfold H.haymowlaw11_EpochOwn.f
  rw [if_pos ⟨u8_wf h0, h1.1, List.all_eq_true.2 (fun y hy => by simpa using u8_wf (h1.2 y hy))⟩])
#print axioms epochOwn_holds
end Go.Proofs.Ythbooikhegppnaa
