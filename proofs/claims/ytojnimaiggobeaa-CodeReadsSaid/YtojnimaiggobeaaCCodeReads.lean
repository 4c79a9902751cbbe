/- The program of any bytes, or why there is none: code.Read answers as the reference does, for every input. No condition. -/
import Derived.Test.YtojnimaiggobeaaRowCodeReads
import Derived.Test.YtojnimaiggobeaaPCodeR
namespace Go.Proofs.Ytojnimaiggobeaa
theorem codeReads_holds : Rows.CodeReadsSaid := codeReads.said (fun l0 h => H.codeReads_pure l0 h)
#print axioms codeReads_holds
end Go.Proofs.Ytojnimaiggobeaa
