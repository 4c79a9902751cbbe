/- Plain law ValidTells. No conditions of a machine. -/
import Derived.Test.YtkbbgkhanmmhpaaPVA
import Derived.Test.YtkbbgkhanmmhpaaH12
namespace Go.Proofs.Ytkbbgkhanmmhpaa.H
open Go.RowKit Go.Proofs.YtkbbgkhanmmhpaaW.PrintWords Go.Proofs.YtkbbgkhanmmhpaaW.PrintLast Go.Proofs.YtkbbgkhanmmhpaaW.PrintMore
set_option linter.unusedVariables false
set_option linter.unusedSimpArgs false
theorem validTells_pure (l : List S50) : ∃ k, haymowlaw03_ValidTells.f k l = some true := by
  obtain ⟨b, h1, h2⟩ := light_ev l
  refine Ev.rounds (g := fun k => haymowlaw03_ValidTells.f k l) (r := true) ?_
  cases b with
  | false =>
    refine Ev.bind (g := fun k => haymowlaw03_light.f k l) (f := fun k t => if t = true then _ else some true) h1 ?_
    exact Ev.congr (fun k => if_neg (by simp)) (Ev.now true)
  | true =>
    obtain ⟨hl, hf⟩ := h2 rfl
    refine Ev.bind (g := fun k => haymowlaw03_light.f k l) (f := fun k t => if t = true then _ else some true) h1 ?_
    refine Ev.congr (fun k => if_pos rfl) ?_
    refine Ev.bind (g := fun k => haymowlaw03_of.f k l) (f := fun k t => (valid_Check.f t).bind fun bt192 => ((haymowref03_Check.f k l).bind fun bt195 => _)) (of_ev l (by omega) (fun f h => by have := hf f h; omega)) ?_
    refine Ev.congr (f := fun k => (haymowref03_Check.f k l).bind fun bt195 => if (checkP (l.map ofF)).1 = bt195.1 then if (checkP (l.map ofF)).2.1 = bt195.2.1 then if (checkP (l.map ofF)).2.2 = bt195.2.2 then haymowlaw03_awake.f.bind fun t => some t else some false else some false else some false) (fun k => rfl) ?_
    refine Ev.bind (g := fun k => haymowref03_Check.f k l) (f := fun k bt195 => if (checkP (l.map ofF)).1 = bt195.1 then if (checkP (l.map ofF)).2.1 = bt195.2.1 then if (checkP (l.map ofF)).2.2 = bt195.2.2 then haymowlaw03_awake.f.bind fun t => some t else some false else some false else some false) (check_ev l hl) ?_
    refine Ev.congr (f := fun _ => some true) (fun k => ?_) (Ev.now true)
    rw [if_pos rfl, if_pos rfl, if_pos rfl, awake_bind]

end Go.Proofs.Ytkbbgkhanmmhpaa.H
