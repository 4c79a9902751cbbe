import Derived.Test.YtenmicgohmamaaaRowGreedyPlans
import Derived.Test.YtenmicgohmamaaaPG3
namespace Go.Proofs.Ytenmicgohmamaaa
theorem greedyPlans_holds : Rows.GreedyPlansSaid := greedyPlans.said (fun l0 a1 _ _ => H.greedyPlans_pure l0 a1)
#print axioms greedyPlans_holds
end Go.Proofs.Ytenmicgohmamaaa
