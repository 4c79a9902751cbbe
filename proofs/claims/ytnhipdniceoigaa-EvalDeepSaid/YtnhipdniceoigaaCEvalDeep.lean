/- A program whose function begins itself goes down to the depth, and fails there: for every input. No condition. -/
import Derived.Test.YtnhipdniceoigaaRowEvalDeep
namespace Go.Proofs.Ytnhipdniceoigaa
open Go.RowKit
theorem u8_in {n : Int} (h : (Lit.int .u8 n).wf = true) : H.inR 0 256 n = true := by
  have e1 : IntKind.u8.min = 0 := by decide
  have e2 : IntKind.u8.max = 255 := by decide
  have h' : IntKind.u8.min ≤ n ∧ n ≤ IntKind.u8.max := by simpa [Lit.wf, go_sem] using h
  rw [e1, e2] at h'
  exact decide_eq_true (by omega)
theorem u16_in {n : Int} (h : (Lit.int .u16 n).wf = true) : H.inR 0 65536 n = true := by
  have e1 : IntKind.u16.min = 0 := by decide
  have e2 : IntKind.u16.max = 65535 := by decide
  have h' : IntKind.u16.min ≤ n ∧ n ≤ IntKind.u16.max := by simpa [Lit.wf, go_sem] using h
  rw [e1, e2] at h'
  exact decide_eq_true (by omega)
theorem evalDeep_holds : Rows.EvalDeepSaid := evalDeep.said (fun a0 a1 h0 => by
  unfold H.haymowlaw06_EvalDeep.f
  rw [u8_in h0]
  rfl)
#print axioms evalDeep_holds
end Go.Proofs.Ytnhipdniceoigaa
