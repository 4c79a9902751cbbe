-- made by this session's gen.py over the kit's print.py; not trusted: Lean checks it
import Derived.Test.YtenmicgohmamaaaH0
namespace Go.Proofs.Ytenmicgohmamaaa.H
open Go.RowKit Go.Proofs.YtenmicgohmamaaaW.PrintWords Go.Proofs.YtenmicgohmamaaaW.PrintLast Go.Proofs.YtenmicgohmamaaaW.PrintMore
attribute [local go_sem] max2_int min2_int max_two min_two max_three min_three max_four min_four   -- for this text's walks alone
set_option linter.unusedVariables false
set_option linter.unusedSimpArgs false

/-! ### haymowref15_Fits: function 16 -/
mutual
def haymowref15_Fits.l0 : Nat → List (List Int) → Int → List Int → Int → Option (Bool)
  | 0, _, _, _, _ => none
  | k + 1, x0, x1, x2, x7 => if x7 < (x0.length : Int) then (if 0 ≤ x7 then (if x7 < (x2.length : Int) then (if (rd x2 x7) < 0 then (some false) else (haymowref15_Fits.l1 k x0 x1 x2 x7 0)) else (none)) else (none)) else (some true)
def haymowref15_Fits.l1 : Nat → List (List Int) → Int → List Int → Int → Int → Option (Bool)
  | 0, _, _, _, _, _ => none
  | k + 1, x0, x1, x2, x7, x8 => if 0 ≤ x7 then (if x7 < (x0.length : Int) then (if x8 < ((rd_L1 x0 x7).length : Int) then (if 0 ≤ x8 then (if 0 ≤ (rd (rd_L1 x0 x7) x8) then (if (rd (rd_L1 x0 x7) x8) < (x2.length : Int) then (if x7 < (x2.length : Int) then (if (rd x2 (rd (rd_L1 x0 x7) x8)) ≥ (rd x2 x7) then (some false) else (haymowref15_Fits.l1 k x0 x1 x2 x7 (wrap64 (x8 + 1)))) else (none)) else (none)) else (none)) else (none)) else (haymowref15_Fits.l2 k x0 x1 x2 x7 0 0)) else (none)) else (none)
def haymowref15_Fits.l2 : Nat → List (List Int) → Int → List Int → Int → Int → Int → Option (Bool)
  | 0, _, _, _, _, _, _ => none
  | k + 1, x0, x1, x2, x7, x9, x10 => if x10 < (x0.length : Int) then (if 0 ≤ x10 then (if x10 < (x2.length : Int) then (if 0 ≤ x7 then (if x7 < (x2.length : Int) then (if (rd x2 x10) = (rd x2 x7) then (haymowref15_Fits.l2 k x0 x1 x2 x7 (wrap64 (x9 + 1)) (wrap64 (x10 + 1))) else (haymowref15_Fits.l2 k x0 x1 x2 x7 x9 (wrap64 (x10 + 1)))) else (none)) else (none)) else (none)) else (none)) else (if x9 > x1 then (some false) else (haymowref15_Fits.l0 k x0 x1 x2 (wrap64 (x7 + 1))))
end
def haymowref15_Fits.f (k : Nat) (l0 : List (List Int)) (a1 : Int) (l2 : List Int) : Option (Bool) := if (l2.length : Int) = (l0.length : Int) then (haymowref15_Fits.l0 k l0 a1 l2 0) else (some false)
theorem haymowref15_Fits.mono_l : ∀ k, (∀ y0 y1 y2 y3, LeO (haymowref15_Fits.l0 k y0 y1 y2 y3) (haymowref15_Fits.l0 (k + 1) y0 y1 y2 y3)) ∧ (∀ y0 y1 y2 y3 y4, LeO (haymowref15_Fits.l1 k y0 y1 y2 y3 y4) (haymowref15_Fits.l1 (k + 1) y0 y1 y2 y3 y4)) ∧ (∀ y0 y1 y2 y3 y4 y5, LeO (haymowref15_Fits.l2 k y0 y1 y2 y3 y4 y5) (haymowref15_Fits.l2 (k + 1) y0 y1 y2 y3 y4 y5))
  | 0 => ⟨fun _ _ _ _ r h => by simp [haymowref15_Fits.l0] at h, fun _ _ _ _ _ r h => by simp [haymowref15_Fits.l1] at h, fun _ _ _ _ _ _ r h => by simp [haymowref15_Fits.l2] at h⟩
  | k + 1 => by
    obtain ⟨ih0, ih1, ih2⟩ := haymowref15_Fits.mono_l k
    refine ⟨?_, ?_, ?_⟩
    · intro y0 y1 y2 y3
      unfold haymowref15_Fits.l0
      repeat' first
      | (with_reducible exact ih0 _ _ _ _)
      | (with_reducible exact ih1 _ _ _ _ _)
      | (with_reducible exact ih2 _ _ _ _ _ _)
      | (with_reducible exact LeO.refl _)
      | (with_reducible exact LeO.none _)
      | (with_reducible refine LeO.ite ?_ ?_)
      | (with_reducible refine LeO.bind ?_ (fun _ => ?_))
      | exact ih0 _ _ _ _
      | exact ih1 _ _ _ _ _
      | exact ih2 _ _ _ _ _ _
      | exact LeO.none _
      | refine LeO.ite ?_ ?_
      | refine LeO.bind ?_ (fun _ => ?_)
    · intro y0 y1 y2 y3 y4
      unfold haymowref15_Fits.l1
      repeat' first
      | (with_reducible exact ih0 _ _ _ _)
      | (with_reducible exact ih1 _ _ _ _ _)
      | (with_reducible exact ih2 _ _ _ _ _ _)
      | (with_reducible exact LeO.refl _)
      | (with_reducible exact LeO.none _)
      | (with_reducible refine LeO.ite ?_ ?_)
      | (with_reducible refine LeO.bind ?_ (fun _ => ?_))
      | exact ih0 _ _ _ _
      | exact ih1 _ _ _ _ _
      | exact ih2 _ _ _ _ _ _
      | exact LeO.none _
      | refine LeO.ite ?_ ?_
      | refine LeO.bind ?_ (fun _ => ?_)
    · intro y0 y1 y2 y3 y4 y5
      unfold haymowref15_Fits.l2
      repeat' first
      | (with_reducible exact ih0 _ _ _ _)
      | (with_reducible exact ih1 _ _ _ _ _)
      | (with_reducible exact ih2 _ _ _ _ _ _)
      | (with_reducible exact LeO.refl _)
      | (with_reducible exact LeO.none _)
      | (with_reducible refine LeO.ite ?_ ?_)
      | (with_reducible refine LeO.bind ?_ (fun _ => ?_))
      | exact ih0 _ _ _ _
      | exact ih1 _ _ _ _ _
      | exact ih2 _ _ _ _ _ _
      | exact LeO.none _
      | refine LeO.ite ?_ ?_
      | refine LeO.bind ?_ (fun _ => ?_)
theorem haymowref15_Fits.mono : ∀ a0 a1 a2 k, LeO (haymowref15_Fits.f k a0 a1 a2) (haymowref15_Fits.f (k + 1) a0 a1 a2) := by
  intro a0 a1 a2 k
  obtain ⟨ih0, ih1, ih2⟩ := haymowref15_Fits.mono_l k
  unfold haymowref15_Fits.f
  repeat' first
      | (with_reducible exact ih0 _ _ _ _)
      | (with_reducible exact ih1 _ _ _ _ _)
      | (with_reducible exact ih2 _ _ _ _ _ _)
      | (with_reducible exact LeO.refl _)
      | (with_reducible exact LeO.none _)
      | (with_reducible refine LeO.ite ?_ ?_)
      | (with_reducible refine LeO.bind ?_ (fun _ => ?_))
      | exact ih0 _ _ _ _
      | exact ih1 _ _ _ _ _
      | exact ih2 _ _ _ _ _ _
      | exact LeO.none _
      | refine LeO.ite ?_ ?_
      | refine LeO.bind ?_ (fun _ => ?_)
set_option maxHeartbeats 8000000 in
set_option maxRecDepth 100000 in
theorem haymowref15_Fits.calls (k : Nat) (A0 : Option Addr) (c0 : Nat) (l0 : List (List Int)) (a1 : Int) (A2 : Option Addr) (c2 : Nat) (l2 : List Int) (r : Bool) (w : World) (hr0 : Kd.C (Kd.slice 3 (Kd.int .i64)) w A0 l0.length l0) (hc0 : l0.length ≤ c0) (hr2 : Kd.C (Kd.int .i64) w A2 l2.length l2) (hc2 : l2.length ≤ c2) (h : haymowref15_Fits.f k l0 a1 l2 = some r) :
    Calls Try.prog 16 #[.slice A0 l0.length c0, .int .i64 a1, .slice A2 l2.length c2] w fun e w' => e = .returned (.bool r) ∧ Drawn0 w w' := by
  have HR0 := Aside0.mk hr0
  have HC0 := Aside0.mk hc0
  clear hr0 hc0
  have HR2 := Aside0.mk hr2
  have HC2 := Aside0.mk hc2
  clear hr2 hc2
  have H : (if (l2.length : Int) = (l0.length : Int) then (haymowref15_Fits.l0 k l0 a1 l2 0) else (some false)) = some r := h
  clear h
  by_cases c4 : (l2.length : Int) = (l0.length : Int)
  · rw [if_pos c4] at H
    have c4b0 : ((l2.length : Int) == (l0.length : Int)) = true := beq_iff_eq.mpr c4
    have c4b1 : ((l2.length : Int) != (l0.length : Int)) = false := bne_eq_false_iff_eq.mpr c4
    have c4b2 : (l2.length == l0.length) = true := by first | simpa using c4 | (simp at c4 ⊢; omega)
    clear c4
    have H' := Aside0.mk H
    clear H
    go_enter Try.func16, Try.ntmps16
    go_wp2
    repeat (go_quiet (fail); try go_wp2)
    go_loopg [7] k (fun kq v7 w' => ∃ (x7_1 : Int), v7 = .int .i64 x7_1 ∧ Aside0 (haymowref15_Fits.l0 kq l0 a1 l2 x7_1 = some r) ∧ Aside0 (kq ≤ k) ∧ Drawn0 w w')
    case atStart => exact ⟨(0), (by first | rfl | (simp; done) | (simp [*]; done)), H', ⟨Nat.le_refl _⟩, by repeat (first | exact Drawn0.refl _ | apply Drawn0.step)⟩
    case round =>
      clear H'
      try clear c1
      try clear c2
      try clear p2
      try clear c4
      try clear c4b0
      try clear c4b1
      try clear c4b2
      obtain ⟨x7_1, rfl, HA, HK1, ⟨m1, rfl⟩⟩ := hrel
      cases gk with
      | zero => exact absurd HA.out (by simp [haymowref15_Fits.l0])
      | succ k1 =>
        have H := HA.out
        clear HA
        simp only [haymowref15_Fits.l0] at H
        by_cases c5 : x7_1 < (l0.length : Int)
        · rw [if_pos c5] at H
          have c5b0 : decide (x7_1 < (l0.length : Int)) = true := decide_eq_true c5
          clear c5
          by_cases c6 : 0 ≤ x7_1
          · rw [if_pos c6] at H
            have c6b0 : decide (0 ≤ x7_1) = true := decide_eq_true c6
            clear c6
            by_cases c7 : x7_1 < (l2.length : Int)
            · rw [if_pos c7] at H
              have c7b0 : decide (x7_1 < (l2.length : Int)) = true := decide_eq_true c7
              clear c7
              by_cases c8 : (rd l2 x7_1) < 0
              · rw [if_pos c8] at H
                have c8b0 : decide ((rd l2 x7_1) < 0) = true := decide_eq_true c8
                clear c8
                obtain rfl := Option.some.inj H
                have p184 : 0 ≤ (x7_1 : Int) := of_decide_eq_true (by first | (with_reducible assumption) | assumption)
                have q184 : x7_1 < (l2.length : Int) := of_decide_eq_true (by first | (with_reducible assumption) | assumption)
                obtain ⟨ad184, e184, hx184_0⟩ := Kd.at_int HR2.out x7_1 p184 q184
                cases e184
                replace p184 := eq_true p184
                replace q184 := eq_true q184
                go_wp2
                repeat (go_quiet (fail); try go_wp2)
                go_ret
                exact ⟨by first | rfl | (simp; done) | (simp [*]; done), by repeat (first | exact Drawn0.refl _ | apply Drawn0.step)⟩
              · rw [if_neg c8] at H
                have c8b0 : decide ((rd l2 x7_1) < 0) = false := decide_eq_false c8
                clear c8
                have H' := Aside0.mk H
                clear H
                have p184 : 0 ≤ (x7_1 : Int) := of_decide_eq_true (by first | (with_reducible assumption) | assumption)
                have q184 : x7_1 < (l2.length : Int) := of_decide_eq_true (by first | (with_reducible assumption) | assumption)
                obtain ⟨ad184, e184, hx184_0⟩ := Kd.at_int HR2.out x7_1 p184 q184
                cases e184
                replace p184 := eq_true p184
                replace q184 := eq_true q184
                go_wp2
                repeat (go_quiet (fail); try go_wp2)
                go_loopg [8] k1 (fun kq v8 w' => ∃ (x8_2 : Int), v8 = .int .i64 x8_2 ∧ Aside0 (haymowref15_Fits.l1 kq l0 a1 l2 x7_1 x8_2 = some r) ∧ Aside0 (kq ≤ k1) ∧ Drawn0 w w')
                case atStart => exact ⟨(0), (by first | rfl | (simp; done) | (simp [*]; done)), H', ⟨Nat.le_refl _⟩, by repeat (first | exact Drawn0.refl _ | apply Drawn0.step)⟩
                case round =>
                  clear H'
                  try clear c1
                  try clear p1
                  try clear q1
                  try clear hx1
                  try clear c2
                  try clear p2
                  try clear c4
                  try clear c4b0
                  try clear c4b1
                  try clear c4b2
                  try clear c5
                  try clear c5b0
                  try clear c6
                  try clear c6b0
                  try clear c7
                  try clear c7b0
                  try clear c8
                  try clear c8b0
                  try clear hx184_0
                  try clear p184
                  try clear p2
                  try clear q184
                  obtain ⟨x8_2, rfl, HA, HK2, ⟨m2, rfl⟩⟩ := hrel
                  cases gk with
                  | zero => exact absurd HA.out (by simp [haymowref15_Fits.l1])
                  | succ k2 =>
                    have H := HA.out
                    clear HA
                    simp only [haymowref15_Fits.l1] at H
                    by_cases c9 : 0 ≤ x7_1
                    · rw [if_pos c9] at H
                      have c9b0 : decide (0 ≤ x7_1) = true := decide_eq_true c9
                      clear c9
                      by_cases c10 : x7_1 < (l0.length : Int)
                      · rw [if_pos c10] at H
                        have c10b0 : decide (x7_1 < (l0.length : Int)) = true := decide_eq_true c10
                        clear c10
                        by_cases c11 : x8_2 < ((rd_L1 l0 x7_1).length : Int)
                        · rw [if_pos c11] at H
                          have c11b0 : decide (x8_2 < ((rd_L1 l0 x7_1).length : Int)) = true := decide_eq_true c11
                          clear c11
                          by_cases c12 : 0 ≤ x8_2
                          · rw [if_pos c12] at H
                            have c12b0 : decide (0 ≤ x8_2) = true := decide_eq_true c12
                            clear c12
                            by_cases c13 : 0 ≤ (rd (rd_L1 l0 x7_1) x8_2)
                            · rw [if_pos c13] at H
                              have c13b0 : decide (0 ≤ (rd (rd_L1 l0 x7_1) x8_2)) = true := decide_eq_true c13
                              clear c13
                              by_cases c14 : (rd (rd_L1 l0 x7_1) x8_2) < (l2.length : Int)
                              · rw [if_pos c14] at H
                                have c14b0 : decide ((rd (rd_L1 l0 x7_1) x8_2) < (l2.length : Int)) = true := decide_eq_true c14
                                clear c14
                                by_cases c15 : x7_1 < (l2.length : Int)
                                · rw [if_pos c15] at H
                                  have c15b0 : decide (x7_1 < (l2.length : Int)) = true := decide_eq_true c15
                                  clear c15
                                  by_cases c16 : (rd l2 (rd (rd_L1 l0 x7_1) x8_2)) ≥ (rd l2 x7_1)
                                  · rw [if_pos c16] at H
                                    have c16b0 : decide ((rd l2 x7_1) ≤ (rd l2 (rd (rd_L1 l0 x7_1) x8_2))) = true := decide_eq_true c16
                                    clear c16
                                    obtain rfl := Option.some.inj H
                                    have p185 : 0 ≤ (x7_1 : Int) := of_decide_eq_true (by first | (with_reducible assumption) | assumption)
                                    have q185 : x7_1 < (l0.length : Int) := of_decide_eq_true (by first | (with_reducible assumption) | assumption)
                                    obtain ⟨ad185, A185_0, c185_0, e185, hx185_0, hl185_0, hi185_0⟩ := at_L1 HR0.out x7_1 p185 q185
                                    cases e185
                                    have HR185_0 := Aside0.mk hi185_0
                                    have HC185_0 := Aside0.mk hl185_0
                                    clear hi185_0 hl185_0
                                    replace p185 := eq_true p185
                                    replace q185 := eq_true q185
                                    have p186 : 0 ≤ (x7_1 : Int) := of_decide_eq_true (by first | (with_reducible assumption) | assumption)
                                    have q186 : x7_1 < (l0.length : Int) := of_decide_eq_true (by first | (with_reducible assumption) | assumption)
                                    obtain ⟨ad186, A186_0, c186_0, e186, hx186_0, hl186_0, hi186_0⟩ := at_L1 HR0.out x7_1 p186 q186
                                    obtain rfl : ad185 = ad186 := (by injection e186)
                                    have HR186_0 := Aside0.mk hi186_0
                                    have HC186_0 := Aside0.mk hl186_0
                                    clear hi186_0 hl186_0
                                    replace p186 := eq_true p186
                                    replace q186 := eq_true q186
                                    have ea_ := Option.some.inj (hx185_0.symm.trans hx186_0)
                                    injection ea_ with ea_ en_ ec_
                                    subst ea_
                                    subst ec_
                                    clear en_
                                    have p187 : 0 ≤ (x8_2 : Int) := of_decide_eq_true (by first | (with_reducible assumption) | assumption)
                                    have q187 : x8_2 < ((rd_L1 l0 x7_1).length : Int) := of_decide_eq_true (by first | (with_reducible assumption) | assumption)
                                    obtain ⟨ad187, e187, hx187_0⟩ := Kd.at_int HR186_0.out x8_2 p187 q187
                                    cases e187
                                    replace p187 := eq_true p187
                                    replace q187 := eq_true q187
                                    have p188 : 0 ≤ ((rd (rd_L1 l0 x7_1) x8_2) : Int) := of_decide_eq_true (by first | (with_reducible assumption) | assumption)
                                    have q188 : (rd (rd_L1 l0 x7_1) x8_2) < (l2.length : Int) := of_decide_eq_true (by first | (with_reducible assumption) | assumption)
                                    obtain ⟨ad188, e188, hx188_0⟩ := Kd.at_int HR2.out (rd (rd_L1 l0 x7_1) x8_2) p188 q188
                                    obtain rfl : ad184 = ad188 := (by injection e188)
                                    replace p188 := eq_true p188
                                    replace q188 := eq_true q188
                                    have p189 : 0 ≤ (x7_1 : Int) := of_decide_eq_true (by first | (with_reducible assumption) | assumption)
                                    have q189 : x7_1 < (l2.length : Int) := of_decide_eq_true (by first | (with_reducible assumption) | assumption)
                                    obtain ⟨ad189, e189, hx189_0⟩ := Kd.at_int HR2.out x7_1 p189 q189
                                    obtain rfl : ad184 = ad189 := (by injection e189)
                                    replace p189 := eq_true p189
                                    replace q189 := eq_true q189
                                    go_wp2
                                    repeat (go_quiet (fail); try go_wp2)
                                    go_ret
                                    exact ⟨by first | rfl | (simp; done) | (simp [*]; done), by repeat (first | exact Drawn0.refl _ | apply Drawn0.step)⟩
                                  · rw [if_neg c16] at H
                                    have c16b0 : decide ((rd l2 x7_1) ≤ (rd l2 (rd (rd_L1 l0 x7_1) x8_2))) = false := decide_eq_false c16
                                    clear c16
                                    have H' := Aside0.mk H
                                    clear H
                                    have p185 : 0 ≤ (x7_1 : Int) := of_decide_eq_true (by first | (with_reducible assumption) | assumption)
                                    have q185 : x7_1 < (l0.length : Int) := of_decide_eq_true (by first | (with_reducible assumption) | assumption)
                                    obtain ⟨ad185, A185_0, c185_0, e185, hx185_0, hl185_0, hi185_0⟩ := at_L1 HR0.out x7_1 p185 q185
                                    cases e185
                                    have HR185_0 := Aside0.mk hi185_0
                                    have HC185_0 := Aside0.mk hl185_0
                                    clear hi185_0 hl185_0
                                    replace p185 := eq_true p185
                                    replace q185 := eq_true q185
                                    have p186 : 0 ≤ (x7_1 : Int) := of_decide_eq_true (by first | (with_reducible assumption) | assumption)
                                    have q186 : x7_1 < (l0.length : Int) := of_decide_eq_true (by first | (with_reducible assumption) | assumption)
                                    obtain ⟨ad186, A186_0, c186_0, e186, hx186_0, hl186_0, hi186_0⟩ := at_L1 HR0.out x7_1 p186 q186
                                    obtain rfl : ad185 = ad186 := (by injection e186)
                                    have HR186_0 := Aside0.mk hi186_0
                                    have HC186_0 := Aside0.mk hl186_0
                                    clear hi186_0 hl186_0
                                    replace p186 := eq_true p186
                                    replace q186 := eq_true q186
                                    have ea_ := Option.some.inj (hx185_0.symm.trans hx186_0)
                                    injection ea_ with ea_ en_ ec_
                                    subst ea_
                                    subst ec_
                                    clear en_
                                    have p187 : 0 ≤ (x8_2 : Int) := of_decide_eq_true (by first | (with_reducible assumption) | assumption)
                                    have q187 : x8_2 < ((rd_L1 l0 x7_1).length : Int) := of_decide_eq_true (by first | (with_reducible assumption) | assumption)
                                    obtain ⟨ad187, e187, hx187_0⟩ := Kd.at_int HR186_0.out x8_2 p187 q187
                                    cases e187
                                    replace p187 := eq_true p187
                                    replace q187 := eq_true q187
                                    have p188 : 0 ≤ ((rd (rd_L1 l0 x7_1) x8_2) : Int) := of_decide_eq_true (by first | (with_reducible assumption) | assumption)
                                    have q188 : (rd (rd_L1 l0 x7_1) x8_2) < (l2.length : Int) := of_decide_eq_true (by first | (with_reducible assumption) | assumption)
                                    obtain ⟨ad188, e188, hx188_0⟩ := Kd.at_int HR2.out (rd (rd_L1 l0 x7_1) x8_2) p188 q188
                                    obtain rfl : ad184 = ad188 := (by injection e188)
                                    replace p188 := eq_true p188
                                    replace q188 := eq_true q188
                                    have p189 : 0 ≤ (x7_1 : Int) := of_decide_eq_true (by first | (with_reducible assumption) | assumption)
                                    have q189 : x7_1 < (l2.length : Int) := of_decide_eq_true (by first | (with_reducible assumption) | assumption)
                                    obtain ⟨ad189, e189, hx189_0⟩ := Kd.at_int HR2.out x7_1 p189 q189
                                    obtain rfl : ad184 = ad189 := (by injection e189)
                                    replace p189 := eq_true p189
                                    replace q189 := eq_true q189
                                    go_wp2
                                    repeat (go_quiet (fail); try go_wp2)
                                    go_roundg k2
                                    case measure => have := HK1.out; have := HK2.out; omega
                                    case rel => exact ⟨(wrap64 (x8_2 + 1)), (by first | rfl | (simp; done) | (simp [*]; done)), H', ⟨by have := HK1.out; have := HK2.out; omega⟩, by repeat (first | exact Drawn0.refl _ | apply Drawn0.step)⟩
                                · rw [if_neg c15] at H
                                  exact absurd H (by simp)
                              · rw [if_neg c14] at H
                                exact absurd H (by simp)
                            · rw [if_neg c13] at H
                              exact absurd H (by simp)
                          · rw [if_neg c12] at H
                            exact absurd H (by simp)
                        · rw [if_neg c11] at H
                          have c11b0 : decide (x8_2 < ((rd_L1 l0 x7_1).length : Int)) = false := decide_eq_false c11
                          clear c11
                          have H' := Aside0.mk H
                          clear H
                          have p185 : 0 ≤ (x7_1 : Int) := of_decide_eq_true (by first | (with_reducible assumption) | assumption)
                          have q185 : x7_1 < (l0.length : Int) := of_decide_eq_true (by first | (with_reducible assumption) | assumption)
                          obtain ⟨ad185, A185_0, c185_0, e185, hx185_0, hl185_0, hi185_0⟩ := at_L1 HR0.out x7_1 p185 q185
                          cases e185
                          have HR185_0 := Aside0.mk hi185_0
                          have HC185_0 := Aside0.mk hl185_0
                          clear hi185_0 hl185_0
                          replace p185 := eq_true p185
                          replace q185 := eq_true q185
                          go_wp2
                          repeat (go_quiet (fail); try go_wp2)
                          go_loopg [9, 10] k2 (fun kq v9 v10 w' => ∃ (x9_3 : Int) (x10_3 : Int), v9 = .int .i64 x9_3 ∧ v10 = .int .i64 x10_3 ∧ Aside0 (haymowref15_Fits.l2 kq l0 a1 l2 x7_1 x9_3 x10_3 = some r) ∧ Aside0 (kq ≤ k2) ∧ Drawn0 w w')
                          case atStart => exact ⟨(0), (0), (by first | rfl | (simp; done) | (simp [*]; done)), (by first | rfl | (simp; done) | (simp [*]; done)), H', ⟨Nat.le_refl _⟩, by repeat (first | exact Drawn0.refl _ | apply Drawn0.step)⟩
                          case round =>
                            clear H'
                            try clear c1
                            try clear p1
                            try clear q1
                            try clear hx1
                            try clear c2
                            try clear p2
                            try clear c4
                            try clear c4b0
                            try clear c4b1
                            try clear c4b2
                            try clear c5
                            try clear c5b0
                            try clear c6
                            try clear c6b0
                            try clear p6
                            try clear c7
                            try clear c7b0
                            try clear c8
                            try clear c8b0
                            try clear c9
                            try clear c9b0
                            try clear c10
                            try clear c10b0
                            try clear c11
                            try clear c11b0
                            try clear c12
                            try clear c12b0
                            try clear c13
                            try clear c13b0
                            try clear c14
                            try clear c14b0
                            try clear c15
                            try clear c15b0
                            try clear c16
                            try clear c16b0
                            try clear hx184_0
                            try clear hx185_0
                            try clear hx186_0
                            try clear hx187_0
                            try clear hx188_0
                            try clear hx189_0
                            try clear p1
                            try clear p184
                            try clear p185
                            try clear p186
                            try clear p187
                            try clear p188
                            try clear p189
                            try clear p2
                            try clear q1
                            try clear q184
                            try clear q185
                            try clear q186
                            try clear q187
                            try clear q188
                            try clear q189
                            obtain ⟨x9_3, x10_3, rfl, rfl, HA, HK3, ⟨m3, rfl⟩⟩ := hrel
                            cases gk with
                            | zero => exact absurd HA.out (by simp [haymowref15_Fits.l2])
                            | succ k3 =>
                              have H := HA.out
                              clear HA
                              simp only [haymowref15_Fits.l2] at H
                              by_cases c17 : x10_3 < (l0.length : Int)
                              · rw [if_pos c17] at H
                                have c17b0 : decide (x10_3 < (l0.length : Int)) = true := decide_eq_true c17
                                clear c17
                                by_cases c18 : 0 ≤ x10_3
                                · rw [if_pos c18] at H
                                  have c18b0 : decide (0 ≤ x10_3) = true := decide_eq_true c18
                                  clear c18
                                  by_cases c19 : x10_3 < (l2.length : Int)
                                  · rw [if_pos c19] at H
                                    have c19b0 : decide (x10_3 < (l2.length : Int)) = true := decide_eq_true c19
                                    clear c19
                                    by_cases c20 : 0 ≤ x7_1
                                    · rw [if_pos c20] at H
                                      have c20b0 : decide (0 ≤ x7_1) = true := decide_eq_true c20
                                      clear c20
                                      by_cases c21 : x7_1 < (l2.length : Int)
                                      · rw [if_pos c21] at H
                                        have c21b0 : decide (x7_1 < (l2.length : Int)) = true := decide_eq_true c21
                                        clear c21
                                        by_cases c22 : (rd l2 x10_3) = (rd l2 x7_1)
                                        · rw [if_pos c22] at H
                                          have c22b0 : ((rd l2 x10_3) == (rd l2 x7_1)) = true := beq_iff_eq.mpr c22
                                          have c22b1 : ((rd l2 x10_3) != (rd l2 x7_1)) = false := bne_eq_false_iff_eq.mpr c22
                                          clear c22
                                          have H' := Aside0.mk H
                                          clear H
                                          have p190 : 0 ≤ (x10_3 : Int) := of_decide_eq_true (by first | (with_reducible assumption) | assumption)
                                          have q190 : x10_3 < (l2.length : Int) := of_decide_eq_true (by first | (with_reducible assumption) | assumption)
                                          obtain ⟨ad190, e190, hx190_0⟩ := Kd.at_int HR2.out x10_3 p190 q190
                                          obtain rfl : ad184 = ad190 := (by injection e190)
                                          replace p190 := eq_true p190
                                          replace q190 := eq_true q190
                                          have p191 : 0 ≤ (x7_1 : Int) := of_decide_eq_true (by first | (with_reducible assumption) | assumption)
                                          have q191 : x7_1 < (l2.length : Int) := of_decide_eq_true (by first | (with_reducible assumption) | assumption)
                                          obtain ⟨ad191, e191, hx191_0⟩ := Kd.at_int HR2.out x7_1 p191 q191
                                          obtain rfl : ad184 = ad191 := (by injection e191)
                                          replace p191 := eq_true p191
                                          replace q191 := eq_true q191
                                          go_wp2
                                          repeat (go_quiet (fail); try go_wp2)
                                          go_roundg k3
                                          case measure => have := HK1.out; have := HK2.out; have := HK3.out; omega
                                          case rel => exact ⟨(wrap64 (x9_3 + 1)), (wrap64 (x10_3 + 1)), (by first | rfl | (simp; done) | (simp [*]; done)), (by first | rfl | (simp; done) | (simp [*]; done)), H', ⟨by have := HK1.out; have := HK2.out; have := HK3.out; omega⟩, by repeat (first | exact Drawn0.refl _ | apply Drawn0.step)⟩
                                        · rw [if_neg c22] at H
                                          have c22b0 : ((rd l2 x10_3) == (rd l2 x7_1)) = false := beq_eq_false_iff_ne.mpr c22
                                          have c22b1 : ((rd l2 x10_3) != (rd l2 x7_1)) = true := bne_iff_ne.mpr c22
                                          have H' := Aside0.mk H
                                          clear H
                                          have p190 : 0 ≤ (x10_3 : Int) := of_decide_eq_true (by first | (with_reducible assumption) | assumption)
                                          have q190 : x10_3 < (l2.length : Int) := of_decide_eq_true (by first | (with_reducible assumption) | assumption)
                                          obtain ⟨ad190, e190, hx190_0⟩ := Kd.at_int HR2.out x10_3 p190 q190
                                          obtain rfl : ad184 = ad190 := (by injection e190)
                                          replace p190 := eq_true p190
                                          replace q190 := eq_true q190
                                          have p191 : 0 ≤ (x7_1 : Int) := of_decide_eq_true (by first | (with_reducible assumption) | assumption)
                                          have q191 : x7_1 < (l2.length : Int) := of_decide_eq_true (by first | (with_reducible assumption) | assumption)
                                          obtain ⟨ad191, e191, hx191_0⟩ := Kd.at_int HR2.out x7_1 p191 q191
                                          obtain rfl : ad184 = ad191 := (by injection e191)
                                          replace p191 := eq_true p191
                                          replace q191 := eq_true q191
                                          go_wp2
                                          repeat (go_quiet (fail); try go_wp2)
                                          go_roundg k3
                                          case measure => have := HK1.out; have := HK2.out; have := HK3.out; omega
                                          case rel => exact ⟨(x9_3), (wrap64 (x10_3 + 1)), (by first | rfl | (simp; done) | (simp [*]; done)), (by first | rfl | (simp; done) | (simp [*]; done)), H', ⟨by have := HK1.out; have := HK2.out; have := HK3.out; omega⟩, by repeat (first | exact Drawn0.refl _ | apply Drawn0.step)⟩
                                      · rw [if_neg c21] at H
                                        exact absurd H (by simp)
                                    · rw [if_neg c20] at H
                                      exact absurd H (by simp)
                                  · rw [if_neg c19] at H
                                    exact absurd H (by simp)
                                · rw [if_neg c18] at H
                                  exact absurd H (by simp)
                              · rw [if_neg c17] at H
                                have c17b0 : decide (x10_3 < (l0.length : Int)) = false := decide_eq_false c17
                                clear c17
                                by_cases c23 : x9_3 > a1
                                · rw [if_pos c23] at H
                                  have c23b0 : decide (a1 < x9_3) = true := decide_eq_true c23
                                  clear c23
                                  obtain rfl := Option.some.inj H
                                  go_wp2
                                  repeat (go_quiet (fail); try go_wp2)
                                  go_ret
                                  exact ⟨by first | rfl | (simp; done) | (simp [*]; done), by repeat (first | exact Drawn0.refl _ | apply Drawn0.step)⟩
                                · rw [if_neg c23] at H
                                  have c23b0 : decide (a1 < x9_3) = false := decide_eq_false c23
                                  clear c23
                                  have H' := Aside0.mk H
                                  clear H
                                  go_wp2
                                  repeat (go_quiet (fail); try go_wp2)
                                  go_roundg k3
                                  case measure => have := HK1.out; have := HK2.out; have := HK3.out; omega
                                  case rel => exact ⟨(wrap64 (x7_1 + 1)), (by first | rfl | (simp; done) | (simp [*]; done)), H', ⟨by have := HK1.out; have := HK2.out; have := HK3.out; omega⟩, by repeat (first | exact Drawn0.refl _ | apply Drawn0.step)⟩
                      · rw [if_neg c10] at H
                        exact absurd H (by simp)
                    · rw [if_neg c9] at H
                      exact absurd H (by simp)
            · rw [if_neg c7] at H
              exact absurd H (by simp)
          · rw [if_neg c6] at H
            exact absurd H (by simp)
        · rw [if_neg c5] at H
          have c5b0 : decide (x7_1 < (l0.length : Int)) = false := decide_eq_false c5
          clear c5
          obtain rfl := Option.some.inj H
          go_wp2
          repeat (go_quiet (fail); try go_wp2)
          go_ret
          exact ⟨by first | rfl | (simp; done) | (simp [*]; done), by repeat (first | exact Drawn0.refl _ | apply Drawn0.step)⟩
  · rw [if_neg c4] at H
    have c4b0 : ((l2.length : Int) == (l0.length : Int)) = false := beq_eq_false_iff_ne.mpr c4
    have c4b1 : ((l2.length : Int) != (l0.length : Int)) = true := bne_iff_ne.mpr c4
    have c4b2 : (l2.length == l0.length) = false := by first | simpa using c4 | (simp at c4 ⊢; omega)
    obtain rfl := Option.some.inj H
    go_enter Try.func16, Try.ntmps16
    go_wp2
    repeat (go_quiet (fail); try go_wp2)
    go_ret
    exact ⟨by first | rfl | (simp; done) | (simp [*]; done), by repeat (first | exact Drawn0.refl _ | apply Drawn0.step)⟩

end Go.Proofs.Ytenmicgohmamaaa.H
