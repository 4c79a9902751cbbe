/- Sums, differences, products, quotients and comparisons of any two numbers; a division by 0 fails: for every input. No condition. -/
import Derived.Test.YtnhipdniceoigaaRowEvalReckons
namespace Go.Proofs.Ytnhipdniceoigaa
open Go.RowKit
theorem evalReckons_holds : Rows.EvalReckonsSaid := evalReckons.said (fun _ _ _ _ => rfl)
#print axioms evalReckons_holds
end Go.Proofs.Ytnhipdniceoigaa
