/- What is read is written as it was, for every input. No condition. -/
import Derived.Test.YtojnimaiggobeaaRowCodeAgain
import Derived.Test.YtojnimaiggobeaaPCodeR
namespace Go.Proofs.Ytojnimaiggobeaa
theorem codeAgain_holds : Rows.CodeAgainSaid := codeAgain.said (fun l0 h => H.codeAgain_pure l0 h)
#print axioms codeAgain_holds
end Go.Proofs.Ytojnimaiggobeaa
