import Derived.Test.YtenmicgohmamaaaRowGreedyLeast
import Derived.Test.YtenmicgohmamaaaPG7
namespace Go.Proofs.Ytenmicgohmamaaa
theorem greedyLeast_holds : Rows.GreedyLeastSaid := greedyLeast.said (fun l0 a1 l2 _ h h2 => H.greedyLeast_pure l0 a1 l2 h h2)
#print axioms greedyLeast_holds
end Go.Proofs.Ytenmicgohmamaaa
