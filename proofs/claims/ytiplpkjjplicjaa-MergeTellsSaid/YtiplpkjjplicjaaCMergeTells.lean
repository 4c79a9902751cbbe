/- What any nodes are merged to, which one fails first, and how many they are; or that they may not be: for every input. No condition. -/
import Derived.Test.YtiplpkjjplicjaaRowMergeTells
namespace Go.Proofs.Ytiplpkjjplicjaa
open Go.RowKit
theorem u8_range {n : Int} (h : (Lit.int .u8 n).wf = true) : 0 ≤ n ∧ n ≤ 255 := by
  have e1 : IntKind.u8.min = 0 := by decide
  have e2 : IntKind.u8.max = 255 := by decide
  have h' : IntKind.u8.min ≤ n ∧ n ≤ IntKind.u8.max := by simpa [Lit.wf, go_sem] using h
  rwa [e1, e2] at h'
theorem mergeTells_holds : Rows.MergeTellsSaid := mergeTells.said (fun l hl => by
  unfold H.haymowlaw07_MergeTells.f
  rw [if_pos (List.all_eq_true.2 fun x hx => decide_eq_true (u8_range (hl x hx).2.2.2))])
#print axioms mergeTells_holds
end Go.Proofs.Ytiplpkjjplicjaa
