/- EvalDeep, EvalTouches, EvalSums: the plain laws. -/
import Derived.Test.YtnhipdniceoigaaEvQ
set_option linter.unusedVariables false
set_option linter.unusedSimpArgs false
namespace Go.Proofs.Ytnhipdniceoigaa.H
open Go.RowKit Go.Hay Go.Proofs.YtnhipdniceoigaaW.PrintWords Go.Proofs.YtnhipdniceoigaaW.PrintLast Go.Proofs.YtnhipdniceoigaaW.PrintMore
def deepC (op : Int) : List S55 := [⟨15, 0, 0, 0, 0⟩, ⟨1, 1, 0, 0, 1⟩, ⟨3, 2, 0, 1, 0⟩, ⟨op, 3, 2, 0, 0⟩, ⟨17, 0, 0, 0, 0⟩]
def deepP (op : Int) : List S58 := [⟨1, deepC op⟩]
def deepOk (op : Int) (d : Nat) : Bool :=
  match evalR (deepP op) [0] 9 d 2000 with
  | ((v, f, told, log), e) => decide (v = 0) && decide (f = 4) && decide (e = 0) && decide (told = (List.range (d + 1)).map Int.ofNat) && decide (log.map (fun p => (p.1.length, p.2)) = (List.range (d + 1)).map (fun i => (i, (4 : Int))))
set_option maxRecDepth 100000 in
theorem deep_all : ∀ d < 31, deepOk 11 d = true ∧ deepOk 13 d = true := by decide +kernel
theorem deep_ends {op : Int} (ho : op = 11 ∨ op = 13) {d : Nat} (hd : d < 31) : ∃ told log, evalR (deepP op) [0] 9 d 2000 = ((0, 4, told, log), 0) ∧ told = (List.range (d + 1)).map Int.ofNat ∧ log.map (fun p => (p.1.length, p.2)) = (List.range (d + 1)).map (fun i => (i, (4 : Int))) := by
  have h : deepOk op d = true := by rcases ho with rfl | rfl; exact (deep_all d hd).1; exact (deep_all d hd).2
  unfold deepOk at h
  generalize evalR (deepP op) [0] 9 d 2000 = q at h ⊢
  obtain ⟨⟨v, f, told, log⟩, e⟩ := q
  simp only [Bool.and_eq_true, decide_eq_true_eq] at h
  obtain ⟨⟨⟨⟨h1, h2⟩, h3⟩, h4⟩, h5⟩ := h
  subst h1 h2 h3
  exact ⟨told, log, rfl, h4, h5⟩
def tchC (h : Int) (ahead : Bool) : List S55 := if ahead = true then [⟨11, 2, 0, 2, 0⟩, ⟨13, h, 0, 1, 0⟩, ⟨12, 0, 0, 0, 0⟩, ⟨17, 2, 0, 0, 0⟩] else [⟨13, h, 0, 1, 0⟩, ⟨11, 2, 0, 2, 0⟩, ⟨12, 0, 0, 0, 0⟩, ⟨17, 2, 0, 0, 0⟩]
def tchP (h : Int) (ahead : Bool) : List S58 := [⟨1, tchC h ahead⟩, ⟨1, [⟨3, 1, 0, 0, 0⟩, ⟨17, 1, 0, 0, 0⟩]⟩, ⟨1, [⟨15, 0, 0, 0, 0⟩, ⟨14, 3, h, 0, 0⟩, ⟨17, 3, 0, 0, 0⟩]⟩]
def tchR (v : Int) (ahead : Bool) : EvR := if ahead = true then ((0, 2, [v], [([], 1), ([0], 2)]), 0) else ((wrap64 (v + v), 0, [v], [([], 4), ([0], 2), ([1], 3)]), 0)
theorem tch_ends (v : Int) {h : Nat} (hh : h < 4) (ahead : Bool) : evalR (tchP h ahead) [v] 9 1 99 = tchR v ahead := by
  have : h = 0 ∨ h = 1 ∨ h = 2 ∨ h = 3 := by omega
  rcases this with rfl | rfl | rfl | rfl <;> cases ahead <;> rfl
end Go.Proofs.Ytnhipdniceoigaa.H
