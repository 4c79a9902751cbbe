/- Where a function's jumps may lead: to its own instructions, and nowhere else. No condition. -/
import Derived.Test.YtkbbgkhanmmhpaaRowValidJumps
import Derived.Test.YtkbbgkhanmmhpaaPVJumps
namespace Go.Proofs.Ytkbbgkhanmmhpaa
theorem validJumps_holds : Rows.ValidJumpsSaid := validJumps.said (fun a0 a1 h _ => H.validJumps_pure a0 a1 h)
#print axioms validJumps_holds
end Go.Proofs.Ytkbbgkhanmmhpaa
