-- made by this session's gen.py over the kit's print.py; not trusted: Lean checks it
import Derived.Test.YtnhipdniceoigaaH0
namespace Go.Proofs.Ytnhipdniceoigaa.H
open Go.RowKit Go.Proofs.YtnhipdniceoigaaW.PrintWords Go.Proofs.YtnhipdniceoigaaW.PrintLast Go.Proofs.YtnhipdniceoigaaW.PrintMore
attribute [local go_sem] max2_int min2_int max_two min_two max_three min_three max_four min_four   -- for this text's walks alone
set_option linter.unusedVariables false
set_option linter.unusedSimpArgs false

/-! ### haymowref06_Reckon: function 21 -/
def haymowref06_Reckon.f (a0 : Int) (a1 : Int) (a2 : Int) : Option (Int × Bool) := if a0 = 3 then (some (wrap64 (a1 + a2), true)) else (if a0 = 4 then (some (wrap64 (a1 - a2), true)) else (if a0 = 5 then (some (wrap64 (a1 * a2), true)) else (if a0 = 6 then (if a2 = 0 then (some (0, false)) else (if a2 = (-1) then (some (wrap64 (-a1), true)) else (some (wrap64 (Int.tdiv a1 a2), true)))) else (if a0 = 7 then (if a1 < a2 then (some (1, true)) else (some (0, true))) else (if a1 = a2 then (some (1, true)) else (some (0, true)))))))
set_option maxHeartbeats 8000000 in
set_option maxRecDepth 100000 in
theorem haymowref06_Reckon.calls (a0 : Int) (a1 : Int) (a2 : Int) (r1 : Int) (r2 : Bool) (w : World) (h : haymowref06_Reckon.f a0 a1 a2 = some (r1, r2)) :
    Calls Try.prog 21 #[.int .i64 a0, .int .i64 a1, .int .i64 a2] w fun e w' => e = .returned (.tuple #[.int .i64 r1, .bool r2]) ∧ Drawn0 w w' := by
  have H : (if a0 = 3 then (some (wrap64 (a1 + a2), true)) else (if a0 = 4 then (some (wrap64 (a1 - a2), true)) else (if a0 = 5 then (some (wrap64 (a1 * a2), true)) else (if a0 = 6 then (if a2 = 0 then (some (0, false)) else (if a2 = (-1) then (some (wrap64 (-a1), true)) else (some (wrap64 (Int.tdiv a1 a2), true)))) else (if a0 = 7 then (if a1 < a2 then (some (1, true)) else (some (0, true))) else (if a1 = a2 then (some (1, true)) else (some (0, true)))))))) = some (r1, r2) := h
  clear h
  by_cases c4 : a0 = 3
  · rw [if_pos c4] at H
    have c4b0 : (a0 == 3) = true := beq_iff_eq.mpr c4
    have c4b1 : (a0 != 3) = false := bne_eq_false_iff_eq.mpr c4
    clear c4
    simp only [Option.some.injEq, Prod.mk.injEq] at H
    obtain ⟨rfl, rfl⟩ := H
    go_enter Try.func21, Try.ntmps21
    go_wp2
    go_ret2
    exact ⟨by first | rfl | (simp; done) | (simp [*]; done), by repeat (first | exact Drawn0.refl _ | apply Drawn0.step)⟩
  · rw [if_neg c4] at H
    have c4b0 : (a0 == 3) = false := beq_eq_false_iff_ne.mpr c4
    have c4b1 : (a0 != 3) = true := bne_iff_ne.mpr c4
    by_cases c5 : a0 = 4
    · rw [if_pos c5] at H
      have c5b0 : (a0 == 4) = true := beq_iff_eq.mpr c5
      have c5b1 : (a0 != 4) = false := bne_eq_false_iff_eq.mpr c5
      clear c5
      simp only [Option.some.injEq, Prod.mk.injEq] at H
      obtain ⟨rfl, rfl⟩ := H
      go_enter Try.func21, Try.ntmps21
      go_wp2
      go_ret2
      exact ⟨by first | rfl | (simp; done) | (simp [*]; done), by repeat (first | exact Drawn0.refl _ | apply Drawn0.step)⟩
    · rw [if_neg c5] at H
      have c5b0 : (a0 == 4) = false := beq_eq_false_iff_ne.mpr c5
      have c5b1 : (a0 != 4) = true := bne_iff_ne.mpr c5
      by_cases c6 : a0 = 5
      · rw [if_pos c6] at H
        have c6b0 : (a0 == 5) = true := beq_iff_eq.mpr c6
        have c6b1 : (a0 != 5) = false := bne_eq_false_iff_eq.mpr c6
        clear c6
        simp only [Option.some.injEq, Prod.mk.injEq] at H
        obtain ⟨rfl, rfl⟩ := H
        go_enter Try.func21, Try.ntmps21
        go_wp2
        go_ret2
        exact ⟨by first | rfl | (simp; done) | (simp [*]; done), by repeat (first | exact Drawn0.refl _ | apply Drawn0.step)⟩
      · rw [if_neg c6] at H
        have c6b0 : (a0 == 5) = false := beq_eq_false_iff_ne.mpr c6
        have c6b1 : (a0 != 5) = true := bne_iff_ne.mpr c6
        by_cases c7 : a0 = 6
        · rw [if_pos c7] at H
          have c7b0 : (a0 == 6) = true := beq_iff_eq.mpr c7
          have c7b1 : (a0 != 6) = false := bne_eq_false_iff_eq.mpr c7
          clear c7
          by_cases c8 : a2 = 0
          · rw [if_pos c8] at H
            have c8b0 : (a2 == 0) = true := beq_iff_eq.mpr c8
            have c8b1 : (a2 != 0) = false := bne_eq_false_iff_eq.mpr c8
            clear c8
            simp only [Option.some.injEq, Prod.mk.injEq] at H
            obtain ⟨rfl, rfl⟩ := H
            go_enter Try.func21, Try.ntmps21
            go_wp2
            go_ret2
            exact ⟨by first | rfl | (simp; done) | (simp [*]; done), by repeat (first | exact Drawn0.refl _ | apply Drawn0.step)⟩
          · rw [if_neg c8] at H
            have c8b0 : (a2 == 0) = false := beq_eq_false_iff_ne.mpr c8
            have c8b1 : (a2 != 0) = true := bne_iff_ne.mpr c8
            by_cases c9 : a2 = (-1)
            · rw [if_pos c9] at H
              have c9b0 : (a2 == (-1)) = true := beq_iff_eq.mpr c9
              have c9b1 : (a2 != (-1)) = false := bne_eq_false_iff_eq.mpr c9
              clear c9
              simp only [Option.some.injEq, Prod.mk.injEq] at H
              obtain ⟨rfl, rfl⟩ := H
              go_enter Try.func21, Try.ntmps21
              go_wp2
              go_ret2
              exact ⟨by first | rfl | (simp; done) | (simp [*]; done), by repeat (first | exact Drawn0.refl _ | apply Drawn0.step)⟩
            · rw [if_neg c9] at H
              have c9b0 : (a2 == (-1)) = false := beq_eq_false_iff_ne.mpr c9
              have c9b1 : (a2 != (-1)) = true := bne_iff_ne.mpr c9
              simp only [Option.some.injEq, Prod.mk.injEq] at H
              obtain ⟨rfl, rfl⟩ := H
              go_enter Try.func21, Try.ntmps21
              go_wp2
              go_ret2
              exact ⟨by first | rfl | (simp; done) | (simp [*]; done), by repeat (first | exact Drawn0.refl _ | apply Drawn0.step)⟩
        · rw [if_neg c7] at H
          have c7b0 : (a0 == 6) = false := beq_eq_false_iff_ne.mpr c7
          have c7b1 : (a0 != 6) = true := bne_iff_ne.mpr c7
          by_cases c10 : a0 = 7
          · rw [if_pos c10] at H
            have c10b0 : (a0 == 7) = true := beq_iff_eq.mpr c10
            have c10b1 : (a0 != 7) = false := bne_eq_false_iff_eq.mpr c10
            clear c10
            by_cases c11 : a1 < a2
            · rw [if_pos c11] at H
              have c11b0 : decide (a1 < a2) = true := decide_eq_true c11
              clear c11
              simp only [Option.some.injEq, Prod.mk.injEq] at H
              obtain ⟨rfl, rfl⟩ := H
              go_enter Try.func21, Try.ntmps21
              go_wp2
              go_ret2
              exact ⟨by first | rfl | (simp; done) | (simp [*]; done), by repeat (first | exact Drawn0.refl _ | apply Drawn0.step)⟩
            · rw [if_neg c11] at H
              have c11b0 : decide (a1 < a2) = false := decide_eq_false c11
              clear c11
              simp only [Option.some.injEq, Prod.mk.injEq] at H
              obtain ⟨rfl, rfl⟩ := H
              go_enter Try.func21, Try.ntmps21
              go_wp2
              go_ret2
              exact ⟨by first | rfl | (simp; done) | (simp [*]; done), by repeat (first | exact Drawn0.refl _ | apply Drawn0.step)⟩
          · rw [if_neg c10] at H
            have c10b0 : (a0 == 7) = false := beq_eq_false_iff_ne.mpr c10
            have c10b1 : (a0 != 7) = true := bne_iff_ne.mpr c10
            by_cases c12 : a1 = a2
            · rw [if_pos c12] at H
              have c12b0 : (a1 == a2) = true := beq_iff_eq.mpr c12
              have c12b1 : (a1 != a2) = false := bne_eq_false_iff_eq.mpr c12
              clear c12
              simp only [Option.some.injEq, Prod.mk.injEq] at H
              obtain ⟨rfl, rfl⟩ := H
              go_enter Try.func21, Try.ntmps21
              go_wp2
              go_ret2
              exact ⟨by first | rfl | (simp; done) | (simp [*]; done), by repeat (first | exact Drawn0.refl _ | apply Drawn0.step)⟩
            · rw [if_neg c12] at H
              have c12b0 : (a1 == a2) = false := beq_eq_false_iff_ne.mpr c12
              have c12b1 : (a1 != a2) = true := bne_iff_ne.mpr c12
              simp only [Option.some.injEq, Prod.mk.injEq] at H
              obtain ⟨rfl, rfl⟩ := H
              go_enter Try.func21, Try.ntmps21
              go_wp2
              go_ret2
              exact ⟨by first | rfl | (simp; done) | (simp [*]; done), by repeat (first | exact Drawn0.refl _ | apply Drawn0.step)⟩

end Go.Proofs.Ytnhipdniceoigaa.H
