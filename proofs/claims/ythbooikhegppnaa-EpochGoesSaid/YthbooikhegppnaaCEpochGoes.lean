/- Where all announce in turn, all goes behind three rounds, each thing once: for every input. No condition. -/
import Derived.Test.YthbooikhegppnaaRowEpochGoes
namespace Go.Proofs.Ythbooikhegppnaa
open Go.RowKit
theorem u8_wf {a : Int} (h : (Lit.int .u8 a).wf = true) : 0 ≤ a ∧ a ≤ 255 := by
  have e1 : IntKind.u8.min = 0 := by decide
  have e2 : IntKind.u8.max = 255 := by decide
  have h' : IntKind.u8.min ≤ a ∧ a ≤ IntKind.u8.max := by simpa [Lit.wf, go_sem] using h
  rwa [e1, e2] at h'
theorem epochGoes_holds : Rows.EpochGoesSaid := epochGoes.said (fun a0 l1 h0 h1 => by
  unfold H.haymowlaw11_EpochGoes.f
  rw [if_pos (u8_wf h0)])
#print axioms epochGoes_holds
end Go.Proofs.Ythbooikhegppnaa
