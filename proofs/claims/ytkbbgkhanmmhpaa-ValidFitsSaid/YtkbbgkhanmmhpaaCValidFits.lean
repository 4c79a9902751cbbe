/- What may run fits its bytes, and may run behind them: for every input. No condition. -/
import Derived.Test.YtkbbgkhanmmhpaaRowValidFits
import Derived.Test.YtkbbgkhanmmhpaaVPFits
namespace Go.Proofs.Ytkbbgkhanmmhpaa
theorem validFits_holds : Rows.ValidFitsSaid := validFits.said (fun l0 _ => H.validFits_pure l0)
#print axioms validFits_holds
end Go.Proofs.Ytkbbgkhanmmhpaa
