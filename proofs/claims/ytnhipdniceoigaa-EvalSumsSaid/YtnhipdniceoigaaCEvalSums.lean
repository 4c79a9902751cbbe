/- A program that begins as many tasks as its argument tells adds what they end with: for every input. No condition. -/
import Derived.Test.YtnhipdniceoigaaRowEvalSums
namespace Go.Proofs.Ytnhipdniceoigaa
open Go.RowKit
theorem u8_in {n : Int} (h : (Lit.int .u8 n).wf = true) : H.inR 0 256 n = true := by
  have e1 : IntKind.u8.min = 0 := by decide
  have e2 : IntKind.u8.max = 255 := by decide
  have h' : IntKind.u8.min ≤ n ∧ n ≤ IntKind.u8.max := by simpa [Lit.wf, go_sem] using h
  rw [e1, e2] at h'
  exact decide_eq_true (by omega)
theorem u16_in {n : Int} (h : (Lit.int .u16 n).wf = true) : H.inR 0 65536 n = true := by
  have e1 : IntKind.u16.min = 0 := by decide
  have e2 : IntKind.u16.max = 65535 := by decide
  have h' : IntKind.u16.min ≤ n ∧ n ≤ IntKind.u16.max := by simpa [Lit.wf, go_sem] using h
  rw [e1, e2] at h'
  exact decide_eq_true (by omega)
theorem i32_in {n : Int} (h : (Lit.int .i32 n).wf = true) : H.inR (-2147483648) 2147483648 n = true := by
  have e1 : IntKind.i32.min = -2147483648 := by decide
  have e2 : IntKind.i32.max = 2147483647 := by decide
  have h' : IntKind.i32.min ≤ n ∧ n ≤ IntKind.i32.max := by simpa [Lit.wf, go_sem] using h
  rw [e1, e2] at h'
  exact decide_eq_true (by omega)
theorem evalSums_holds : Rows.EvalSumsSaid := evalSums.said (fun a0 a1 a2 h0 h1 => by
  unfold H.haymowlaw06_EvalSums.f
  rw [u8_in h0, i32_in h1]
  rfl)
#print axioms evalSums_holds
end Go.Proofs.Ytnhipdniceoigaa
