/- A program that may run may, too, with a function more behind it that does nothing but end. No condition. -/
import Derived.Test.YtkbbgkhanmmhpaaRowValidMore
import Derived.Test.YtkbbgkhanmmhpaaPVMore
namespace Go.Proofs.Ytkbbgkhanmmhpaa
theorem validMore_holds : Rows.ValidMoreSaid := validMore.said (fun l0 a1 _ h => H.validMore_pure l0 a1 h)
#print axioms validMore_holds
end Go.Proofs.Ytkbbgkhanmmhpaa
