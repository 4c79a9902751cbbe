/- The bytes of any program, or that a number does not fit: code.Write answers as the reference does, for every input. No condition. -/
import Derived.Test.YtojnimaiggobeaaRowCodeWrites
import Derived.Test.YtojnimaiggobeaaPCode
namespace Go.Proofs.Ytojnimaiggobeaa
theorem codeWrites_holds : Rows.CodeWritesSaid := codeWrites.said (fun l0 _ => H.codeWrites_pure l0)
#print axioms codeWrites_holds
end Go.Proofs.Ytojnimaiggobeaa
