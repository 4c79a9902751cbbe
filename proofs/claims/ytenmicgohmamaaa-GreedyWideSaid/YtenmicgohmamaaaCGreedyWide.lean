import Derived.Test.YtenmicgohmamaaaRowGreedyWide
import Derived.Test.YtenmicgohmamaaaPG6
namespace Go.Proofs.Ytenmicgohmamaaa
theorem greedyWide_holds : Rows.GreedyWideSaid := greedyWide.said (fun l0 _ => H.greedyWide_pure l0)
#print axioms greedyWide_holds
end Go.Proofs.Ytenmicgohmamaaa
