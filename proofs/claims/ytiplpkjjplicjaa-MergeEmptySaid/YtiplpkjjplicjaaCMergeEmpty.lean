/- A node without pieces tells nothing, and ends with its value, or fails as it does; one that fails and has a value may not be: for every input. No condition. -/
import Derived.Test.YtiplpkjjplicjaaRowMergeEmpty
namespace Go.Proofs.Ytiplpkjjplicjaa
theorem mergeEmpty_holds : Rows.MergeEmptySaid := mergeEmpty.said (fun _ _ _ _ => rfl)
#print axioms mergeEmpty_holds
end Go.Proofs.Ytiplpkjjplicjaa
