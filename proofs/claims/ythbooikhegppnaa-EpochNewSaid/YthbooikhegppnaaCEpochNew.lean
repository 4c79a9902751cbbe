/- Which epochs there are, and that one that is not there does nothing: for every input. No condition. -/
import Derived.Test.YthbooikhegppnaaRowEpochNew
namespace Go.Proofs.Ythbooikhegppnaa
open Go.RowKit
theorem epochNew_holds : Rows.EpochNewSaid := epochNew.said (fun _ _ => rfl)
#print axioms epochNew_holds
end Go.Proofs.Ythbooikhegppnaa
