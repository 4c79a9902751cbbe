/- Whether any program may run, or what is wrong first, and where: valid.Check answers as the reference does, for every input. No condition. -/
import Derived.Test.YtkbbgkhanmmhpaaRowValidTells
import Derived.Test.YtkbbgkhanmmhpaaPVTells
namespace Go.Proofs.Ytkbbgkhanmmhpaa
theorem validTells_holds : Rows.ValidTellsSaid := validTells.said (fun l0 _ => H.validTells_pure l0)
#print axioms validTells_holds
end Go.Proofs.Ytkbbgkhanmmhpaa
