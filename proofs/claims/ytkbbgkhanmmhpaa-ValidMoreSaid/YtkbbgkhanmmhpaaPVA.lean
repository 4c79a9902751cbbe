/- What the laws of may-run share. No conditions of a machine. -/
import Derived.Test.YtkbbgkhanmmhpaaPV1
import Derived.Test.YtkbbgkhanmmhpaaH11
namespace Go.Proofs.Ytkbbgkhanmmhpaa.H
open Go.RowKit Go.Proofs.YtkbbgkhanmmhpaaW.PrintWords Go.Proofs.YtkbbgkhanmmhpaaW.PrintLast Go.Proofs.YtkbbgkhanmmhpaaW.PrintMore
set_option linter.unusedVariables false
set_option linter.unusedSimpArgs false
theorem awake_f : haymowlaw03_awake.f = some true := by decide
theorem ite3 {a b c : Prop} [Decidable a] [Decidable b] [Decidable c] {x y : Option Bool} (h1 : a) (h2 : b) (h3 : c) : (if a then (if b then (if c then x else y) else y) else y) = x := by rw [if_pos h1, if_pos h2, if_pos h3]
theorem awake_bind : (haymowlaw03_awake.f.bind fun t => some t) = some true := by rw [awake_f]; rfl

theorem u8_rng {a : Int} (h : (Lit.int .u8 a).wf = true) : 0 ≤ a ∧ a ≤ 255 := by
  have e1 : IntKind.u8.min = 0 := by decide
  have e2 : IntKind.u8.max = 255 := by decide
  have h' : IntKind.u8.min ≤ a ∧ a ≤ IntKind.u8.max := by simpa [Lit.wf, IntKind.wrap, go_sem] using h
  rwa [e1, e2] at h'
/-! ### jumps -/
theorem instrs_all {lc : Nat} {l : List S36} : ∀ (c : List S33) (k : Nat), (∀ x ∈ c, instrE lc l x = none) → instrsE lc l k c = none
  | [], k, h => rfl
  | x :: r, k, h => by
    simp only [instrsE]
    rw [h x (by simp)]
    exact instrs_all r (k + 1) fun y hy => h y (by simp [hy])
theorem instrs_then {lc : Nat} {l : List S36} : ∀ (c t : List S33) (k : Nat), (∀ x ∈ c, instrE lc l x = none) → instrsE lc l k (c ++ t) = instrsE lc l (k + c.length) t
  | [], t, k, h => by simp
  | x :: r, t, k, h => by
    simp only [instrsE, List.cons_append]
    rw [h x (by simp)]
    have := instrs_then r t (k + 1) fun y hy => h y (by simp [hy])
    simp only [List.length_cons]
    rw [show k + (r.length + 1) = k + 1 + r.length by omega]
    exact this
theorem rd33_last (c : List S33) (x : S33) : rd_T33 (c ++ [x]) (((c ++ [x]).length : Int) - 1) = x := by
  unfold rd_T33
  rw [show (((c ++ [x]).length : Int) - 1).toNat = c.length by simp]
  simp
theorem one_check (c : List S33) (h1 : 1 ≤ c.length) (h2 : c.length ≤ 64) : checkP [⟨0, c⟩] = match (instrsE c.length [⟨0, c⟩] 0 c).or (lastE ⟨0, c⟩) with | none => (0, 0, 0) | some e => (0, e.1, e.2) := by
  unfold checkP
  rw [if_pos (by simp)]
  simp only [funcsE, funcE]
  rw [if_pos (by decide), if_pos ⟨h1, h2⟩]
  cases (instrsE c.length [⟨0, c⟩] 0 c).or (lastE ⟨0, c⟩) <;> rfl
end Go.Proofs.Ytkbbgkhanmmhpaa.H
