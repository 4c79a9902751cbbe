/- What valid.Check answers, in plain words. -/
import Derived.Test.YtnhipdniceoigaaH0
import Derived.Test.YtnhipdniceoigaaH3
set_option linter.unusedVariables false
set_option linter.unusedSimpArgs false
namespace Go.Proofs.Ytnhipdniceoigaa.H
open Go.RowKit Go.Proofs.YtnhipdniceoigaaW.PrintWords Go.Proofs.YtnhipdniceoigaaW.PrintLast Go.Proofs.YtnhipdniceoigaaW.PrintMore
def inB (lo hi n : Int) : Bool := decide (lo ≤ n) && decide (n < hi)
def fieldE (np lc : Nat) (n p : Int) : Option Int :=
  if p = 1 then (if inB 0 8 n then none else some 6)
  else if p = 2 then (if inB 0 4 n then none else some 6)
  else if p = 3 then (if inB 0 np n then none else some 5)
  else if p = 5 then (if inB 0 lc n then none else some 6)
  else if p = 6 then (if inB 16 2147483648 n then none else some 6)
  else if p = 4 then (if inB (-2147483648) 2147483648 n then none else some 6)
  else none
def shapeP (op : Int) : Int × Int × Int × Int × Bool :=
  if op = 1 then (1, 0, 0, 4, true) else if op = 2 then (1, 1, 0, 0, true)
  else if 3 ≤ op ∧ op ≤ 8 then (1, 1, 1, 0, true) else if op = 9 then (0, 0, 0, 5, true) else if op = 10 then (1, 0, 0, 5, true)
  else if op = 11 then (1, 1, 3, 0, true) else if op = 12 then (0, 0, 0, 0, true) else if op = 13 then (2, 1, 3, 0, true)
  else if op = 14 then (1, 2, 0, 0, true) else if op = 15 ∨ op = 17 then (1, 0, 0, 0, true) else if op = 16 then (0, 0, 0, 6, true) else (0, 0, 0, 0, false)
theorem shape_eq (op : Int) : valid_shapeOf.f 3 op = some (shapeP op) := by
  by_cases h : 1 ≤ op ∧ op ≤ 17
  · have : op = 1 ∨ op = 2 ∨ op = 3 ∨ op = 4 ∨ op = 5 ∨ op = 6 ∨ op = 7 ∨ op = 8 ∨ op = 9 ∨ op = 10 ∨ op = 11 ∨ op = 12 ∨ op = 13 ∨ op = 14 ∨ op = 15 ∨ op = 16 ∨ op = 17 := by omega
    rcases this with rfl | rfl | rfl | rfl | rfl | rfl | rfl | rfl | rfl | rfl | rfl | rfl | rfl | rfl | rfl | rfl | rfl <;> decide
  · have n : ∀ k : Int, 1 ≤ k → k ≤ 17 → (op = k) = False := fun k h1 h2 => eq_false (by omega)
    have b : ∀ k : Int, 1 ≤ k → k ≤ 17 → (op == k) = false := fun k h1 h2 => by simp [n k h1 h2]
    have e : (3 ≤ op ∧ op ≤ 8) = False := eq_false (by omega)
    simp [valid_shapeOf.f, valid_shapeOf.j0, valid_shapeOf.j1, shapeP, n, e]
theorem shape_three (op : Int) : ((shapeP op).2.2.1 = 3 → (shapeP op).2.1 = 1) := by
  unfold shapeP
  repeat' split
  all_goals simp
def arityE (l : List S58) (x : S55) (c : Int) : Option Int := if c = 3 then (if (rd_T58 l x.f3).f0 ≤ 8 - x.f2 then none else some 6) else none
def instrE (lc : Nat) (l : List S58) (x : S55) : Option Int :=
  match shapeP x.f0 with
  | (a, b, c, k, is) => if is = false then some 4 else if a = 0 ∧ x.f1 ≠ 0 then some 4 else if b = 0 ∧ x.f2 ≠ 0 then some 4 else if c = 0 ∧ x.f3 ≠ 0 then some 4 else if k = 0 ∧ x.f4 ≠ 0 then some 4
    else (fieldE l.length lc x.f1 a).or ((fieldE l.length lc x.f2 b).or ((fieldE l.length lc x.f3 c).or ((fieldE l.length lc x.f4 k).or (arityE l x c))))
theorem instrE_eq {lc : Nat} {l : List S58} {x : S55} {a b c k : Int} {is : Bool} (h : shapeP x.f0 = (a, b, c, k, is)) : instrE lc l x = (if is = false then some 4 else if a = 0 ∧ x.f1 ≠ 0 then some 4 else if b = 0 ∧ x.f2 ≠ 0 then some 4 else if c = 0 ∧ x.f3 ≠ 0 then some 4 else if k = 0 ∧ x.f4 ≠ 0 then some 4
    else (fieldE l.length lc x.f1 a).or ((fieldE l.length lc x.f2 b).or ((fieldE l.length lc x.f3 c).or ((fieldE l.length lc x.f4 k).or (arityE l x c))))) := by
  unfold instrE
  split
  rename_i e
  rw [h] at e
  cases e
  rfl
def instrsE (lc : Nat) (l : List S58) : Nat → List S55 → Option (Int × Int)
  | _, [] => none
  | k, x :: r => match instrE lc l x with
    | some e => some (k, e)
    | none => instrsE lc l (k + 1) r
def lastE (g : S58) : Option (Int × Int) :=
  let o := (rd_T55 g.f1 ((g.f1.length : Int) - 1)).f0
  if o = 9 ∨ o = 16 ∨ o = 17 then none else some ((g.f1.length : Int) - 1, 11)
def funcE (l : List S58) (g : S58) : Option (Int × Int) :=
  if 0 ≤ g.f0 ∧ g.f0 ≤ 4 then if 1 ≤ g.f1.length ∧ g.f1.length ≤ 64 then (instrsE g.f1.length l 0 g.f1).or (lastE g) else some (0, 3) else some (0, 6)
def funcsE (l : List S58) : Nat → List S58 → Option (Int × Int × Int)
  | _, [] => none
  | f, g :: r => match funcE l g with
    | some e => some (f, e.1, e.2)
    | none => funcsE l (f + 1) r
def checkP (l : List S58) : Int × Int × Int := if 1 ≤ l.length ∧ l.length ≤ 16 then (funcsE l 0 l).getD (0, 0, 0) else (0, 0, 3)
def valid_Check.f (l : List S58) : Option (Int × Int × Int) := some (checkP l)
end Go.Proofs.Ytnhipdniceoigaa.H
