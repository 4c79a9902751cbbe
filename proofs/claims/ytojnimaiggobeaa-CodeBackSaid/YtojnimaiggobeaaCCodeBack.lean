/- What is written is read as it was, for every input. No condition. -/
import Derived.Test.YtojnimaiggobeaaRowCodeBack
import Derived.Test.YtojnimaiggobeaaPCodeR
namespace Go.Proofs.Ytojnimaiggobeaa
theorem codeBack_holds : Rows.CodeBackSaid := codeBack.said (fun l0 _ => H.codeBack_pure l0)
#print axioms codeBack_holds
end Go.Proofs.Ytojnimaiggobeaa
