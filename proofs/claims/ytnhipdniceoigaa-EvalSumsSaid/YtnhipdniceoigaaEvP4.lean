/- EvalSums: the plain law. -/
import Derived.Test.YtnhipdniceoigaaEvQ
set_option linter.unusedVariables false
set_option linter.unusedSimpArgs false
namespace Go.Proofs.Ytnhipdniceoigaa.H
open Go.RowKit Go.Hay Go.Proofs.YtnhipdniceoigaaW.PrintWords Go.Proofs.YtnhipdniceoigaaW.PrintLast Go.Proofs.YtnhipdniceoigaaW.PrintMore
def sumOp (fut : Bool) : Int := if fut = true then 13 else 11
def sumMore (fut : Bool) : List S55 := if fut = true then [⟨14, 2, 2, 0, 0⟩] else []
def sumPre (fut : Bool) : Nat → List S55
  | 0 => [⟨2, 1, 0, 0, 0⟩]
  | k + 1 => sumPre fut k ++ [⟨sumOp fut, 2, 1, 1, 0⟩, ⟨12, 0, 0, 0, 0⟩] ++ sumMore fut
def sumP (fut : Bool) (k : Nat) : List S58 := [⟨1, sumPre fut k ++ [⟨17, 2, 0, 0, 0⟩]⟩, ⟨1, [⟨15, 0, 0, 0, 0⟩, ⟨3, 3, 0, 0, 0⟩, ⟨17, 3, 0, 0, 0⟩]⟩]
def sumV (v : Int) : Nat → Int
  | 0 => 0
  | _ + 1 => wrap64 (v + v)
def sumLog (fut : Bool) (k : Nat) : List (List Int × Int) := ([], (k : Int) * (if fut = true then 3 else 2) + 2) :: (List.range k).map (fun i : Nat => ([(i : Int)], (3 : Int)))
theorem sum_ends (v : Int) {k : Nat} (hk : k < 20) (fut : Bool) : evalR (sumP fut k) [v] 100 1 3000 = ((sumV v k, 0, List.replicate k v, sumLog fut k), 0) := by
  have : k = 0 ∨ k = 1 ∨ k = 2 ∨ k = 3 ∨ k = 4 ∨ k = 5 ∨ k = 6 ∨ k = 7 ∨ k = 8 ∨ k = 9 ∨ k = 10 ∨ k = 11 ∨ k = 12 ∨ k = 13 ∨ k = 14 ∨ k = 15 ∨ k = 16 ∨ k = 17 ∨ k = 18 ∨ k = 19 := by omega
  rcases this with rfl | rfl | rfl | rfl | rfl | rfl | rfl | rfl | rfl | rfl | rfl | rfl | rfl | rfl | rfl | rfl | rfl | rfl | rfl | rfl <;> cases fut <;> (show _ = _; kernel_rfl)
end Go.Proofs.Ytnhipdniceoigaa.H
