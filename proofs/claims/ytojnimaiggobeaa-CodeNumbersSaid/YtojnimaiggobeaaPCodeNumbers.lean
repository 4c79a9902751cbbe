/- Any instruction whose numbers fit comes back as it was: for every input. No condition. -/
import Derived.Test.YtojnimaiggobeaaRowCodeNumbers
import Derived.Test.YtojnimaiggobeaaPCodeM
namespace Go.Proofs.Ytojnimaiggobeaa
open Go.RowKit
theorem codeNumbers_holds : Rows.CodeNumbersSaid := codeNumbers.said (fun o a b c k h => by
  obtain ⟨h0, h1, h2, h3, h4⟩ := h
  have e1 : IntKind.u8.min = 0 := by decide
  have e2 : IntKind.u8.max = 255 := by decide
  have e3 : IntKind.i32.min = -2147483648 := by decide
  have e4 : IntKind.i32.max = 2147483647 := by decide
  have hok : H.okInstr (H.numI o a b c k) = true := by
    simp [Lit.wf, go_sem, e1, e2, e3, e4] at h0 h1 h2 h3 h4
    refine (H.okInstr_iff _).2 ⟨?_, ?_, H.fitsB_iff.2 ?_, H.fitsB_iff.2 ?_, H.fitsB_iff.2 ?_, H.fitsB_iff.2 ?_⟩ <;> simp only [H.numI] <;> omega
  unfold H.haymowlaw02_CodeNumbers.f
  rw [if_pos hok])
#print axioms codeNumbers_holds
end Go.Proofs.Ytojnimaiggobeaa
