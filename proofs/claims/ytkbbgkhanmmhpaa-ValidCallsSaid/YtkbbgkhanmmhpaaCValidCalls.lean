/- A function may be begun just if it is there, and the registers are enough for its arity. No condition. -/
import Derived.Test.YtkbbgkhanmmhpaaRowValidCalls
import Derived.Test.YtkbbgkhanmmhpaaPVCalls
namespace Go.Proofs.Ytkbbgkhanmmhpaa
theorem validCalls_holds : Rows.ValidCallsSaid := validCalls.said (fun a b w f h => H.validCalls_pure a b w f h.1 h.2.1)
#print axioms validCalls_holds
end Go.Proofs.Ytkbbgkhanmmhpaa
