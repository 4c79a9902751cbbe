/- Plain law ValidMore. No conditions of a machine. -/
import Derived.Test.YtkbbgkhanmmhpaaPVB
import Derived.Test.YtkbbgkhanmmhpaaH13
namespace Go.Proofs.Ytkbbgkhanmmhpaa.H
open Go.RowKit Go.Proofs.YtkbbgkhanmmhpaaW.PrintWords Go.Proofs.YtkbbgkhanmmhpaaW.PrintLast Go.Proofs.YtkbbgkhanmmhpaaW.PrintMore
set_option linter.unusedVariables false
set_option linter.unusedSimpArgs false
theorem validMore_pure (l : List S50) (a : Int) (ha : (Lit.int .u8 a).wf = true) : ∃ k, haymowlaw03_ValidMore.f k l a = some true := by
  obtain ⟨b, h1, h2⟩ := light_ev l
  refine Ev.rounds (g := fun k => haymowlaw03_ValidMore.f k l a) (r := true) ?_
  have ha' := u8_rng ha
  cases b with
  | false =>
    refine Ev.bind (g := fun k => haymowlaw03_light.f k l) (f := fun k t => if t = true then _ else some true) h1 ?_
    exact Ev.congr (fun k => if_neg (by simp)) (Ev.now true)
  | true =>
    obtain ⟨hl, hf⟩ := h2 rfl
    refine Ev.bind (g := fun k => haymowlaw03_light.f k l) (f := fun k t => if t = true then _ else some true) h1 ?_
    refine Ev.congr (fun k => if_pos rfl) ?_
    refine Ev.bind (g := fun k => haymowlaw03_of.f k l) (f := fun k t => (valid_Check.f t).bind fun bt203 => _) (of_ev l (by omega) (fun f h => by have := hf f h; omega)) ?_
    refine Ev.congr (f := fun _ => some true) (fun k => ?_) (Ev.now true)
    simp only [valid_Check.f, Option.bind_some]
    by_cases h0 : (checkP (l.map ofF)).2.2 = 0
    · rw [if_pos h0, if_pos (by simp; omega)]
      have hw : Int.tmod (wrap64 a) 6 = a % 6 := by rw [wrap_id (by omega) (by omega), Int.tmod_eq_emod_of_nonneg ha'.1]
      rw [hw]
      simp only [check_more (l := l.map ofF) (a % 6) (by omega) h0]
      by_cases c1 : 16 ≤ (l.map ofF).length
      · rw [if_pos (by omega), if_pos c1, if_pos rfl, if_pos rfl, if_pos rfl, awake_bind]
      · rw [if_neg (by omega), if_neg c1]
        by_cases c2 : 4 < a % 6
        · rw [if_pos c2, if_pos c2, if_pos rfl, if_pos rfl, if_pos rfl, awake_bind]
        · rw [if_neg c2, if_neg c2, if_pos rfl, awake_bind]
    · rw [if_neg h0, awake_bind]

end Go.Proofs.Ytkbbgkhanmmhpaa.H
