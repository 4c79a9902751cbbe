/- Bytes cut short are too short, with more behind them too long, for every input. No condition. -/
import Derived.Test.YtojnimaiggobeaaRowCodeCut
import Derived.Test.YtojnimaiggobeaaPCodeR
namespace Go.Proofs.Ytojnimaiggobeaa
theorem codeCut_holds : Rows.CodeCutSaid := codeCut.said (fun l0 l1 a2 h0 h1 h2 => H.codeCut_pure l0 l1 a2 h0 h1 h2)
#print axioms codeCut_holds
end Go.Proofs.Ytojnimaiggobeaa
