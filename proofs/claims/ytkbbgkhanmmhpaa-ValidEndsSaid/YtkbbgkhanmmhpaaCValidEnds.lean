/- A function's last instruction is a jump, a fail, or a ret; any other one that may stand there is told, by its place. No condition. -/
import Derived.Test.YtkbbgkhanmmhpaaRowValidEnds
import Derived.Test.YtkbbgkhanmmhpaaPVEnds
namespace Go.Proofs.Ytkbbgkhanmmhpaa
theorem validEnds_holds : Rows.ValidEndsSaid := validEnds.said (fun a0 a1 h k => H.validEnds_pure a0 a1 h k)
#print axioms validEnds_holds
end Go.Proofs.Ytkbbgkhanmmhpaa
