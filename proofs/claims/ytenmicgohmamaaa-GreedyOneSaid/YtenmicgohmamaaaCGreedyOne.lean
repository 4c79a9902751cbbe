import Derived.Test.YtenmicgohmamaaaRowGreedyOne
import Derived.Test.YtenmicgohmamaaaPG2
namespace Go.Proofs.Ytenmicgohmamaaa
theorem greedyOne_holds : Rows.GreedyOneSaid := greedyOne.said (fun l0 _ => H.greedyOne_pure l0)
#print axioms greedyOne_holds
end Go.Proofs.Ytenmicgohmamaaa
