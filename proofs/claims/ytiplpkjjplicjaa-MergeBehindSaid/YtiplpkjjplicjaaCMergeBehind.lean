/- What stands behind the first failure does not matter: with other numbers told behind it, and another end of what is above it, it is merged to the same: for every input. No condition. -/
import Derived.Test.YtiplpkjjplicjaaRowMergeBehind
namespace Go.Proofs.Ytiplpkjjplicjaa
open Go.RowKit
theorem u8_range {n : Int} (h : (Lit.int .u8 n).wf = true) : 0 ≤ n ∧ n ≤ 255 := by
  have e1 : IntKind.u8.min = 0 := by decide
  have e2 : IntKind.u8.max = 255 := by decide
  have h' : IntKind.u8.min ≤ n ∧ n ≤ IntKind.u8.max := by simpa [Lit.wf, go_sem] using h
  rwa [e1, e2] at h'
theorem mergeBehind_holds : Rows.MergeBehindSaid := mergeBehind.said (fun l ns v f h => by
  unfold H.haymowlaw07_MergeBehind.f
  rw [if_pos ⟨List.all_eq_true.2 fun x hx => decide_eq_true (u8_range (h.1 x hx).2.2.2), u8_range h.2.2.2⟩])
#print axioms mergeBehind_holds
end Go.Proofs.Ytiplpkjjplicjaa
