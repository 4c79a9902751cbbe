import Derived.Test.YtenmicgohmamaaaRowGreedyFits
import Derived.Test.YtenmicgohmamaaaPG9
namespace Go.Proofs.Ytenmicgohmamaaa
theorem greedyFits_holds : Rows.GreedyFitsSaid := greedyFits.said (fun l0 a1 l2 _ _ h2 => H.greedyFits_pure l0 a1 l2 h2)
#print axioms greedyFits_holds
end Go.Proofs.Ytenmicgohmamaaa
