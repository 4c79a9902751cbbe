import Derived.Test.YtenmicgohmamaaaRowGreedyForks
import Derived.Test.YtenmicgohmamaaaPG8
namespace Go.Proofs.Ytenmicgohmamaaa
theorem greedyForks_holds : Rows.GreedyForksSaid := greedyForks.said (fun a0 a1 h0 h1 => H.greedyForks_pure a0 a1 h0 h1)
#print axioms greedyForks_holds
end Go.Proofs.Ytenmicgohmamaaa
