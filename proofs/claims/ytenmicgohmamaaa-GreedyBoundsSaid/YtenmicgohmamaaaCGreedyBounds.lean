import Derived.Test.YtenmicgohmamaaaRowGreedyBounds
import Derived.Test.YtenmicgohmamaaaPG7
namespace Go.Proofs.Ytenmicgohmamaaa
theorem greedyBounds_holds : Rows.GreedyBoundsSaid := greedyBounds.said (fun l0 a1 _ h => H.greedyBounds_pure l0 a1 h)
#print axioms greedyBounds_holds
end Go.Proofs.Ytenmicgohmamaaa
