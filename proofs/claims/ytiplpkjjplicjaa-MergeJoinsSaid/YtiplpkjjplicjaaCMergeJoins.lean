/- Of a node whose pieces are all its kids, what it tells is what they tell, one behind the other: for every input. No condition. -/
import Derived.Test.YtiplpkjjplicjaaRowMergeJoins
namespace Go.Proofs.Ytiplpkjjplicjaa
open Go.RowKit
theorem mergeJoins_holds : Rows.MergeJoinsSaid := mergeJoins.said (fun _ _ _ _ => rfl)
#print axioms mergeJoins_holds
end Go.Proofs.Ytiplpkjjplicjaa
