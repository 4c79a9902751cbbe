-- made by this session's gen.py over the kit's print.py; not trusted: Lean checks it
import Derived.Test.YtenmicgohmamaaaH0
namespace Go.Proofs.Ytenmicgohmamaaa.H
open Go.RowKit Go.Proofs.YtenmicgohmamaaaW.PrintWords Go.Proofs.YtenmicgohmamaaaW.PrintLast Go.Proofs.YtenmicgohmamaaaW.PrintMore
attribute [local go_sem] max2_int min2_int max_two min_two max_three min_three max_four min_four   -- for this text's walks alone
set_option linter.unusedVariables false
set_option linter.unusedSimpArgs false

/-! ### haymowref15_ready: function 24 -/
def haymowref15_ready.l0 : Nat → List (List Int) → List Int → Int → Int → Int → Option (Bool)
  | 0, _, _, _, _, _ => none
  | k + 1, x0, x1, x2, x3, x9 => if 0 ≤ x2 then (if x2 < (x0.length : Int) then (if x9 < ((rd_L1 x0 x2).length : Int) then (if 0 ≤ x9 then (if 0 ≤ (rd (rd_L1 x0 x2) x9) then (if (rd (rd_L1 x0 x2) x9) < (x1.length : Int) then (if (rd x1 (rd (rd_L1 x0 x2) x9)) < 0 then (some false) else (if (rd x1 (rd (rd_L1 x0 x2) x9)) ≥ x3 then (some false) else (haymowref15_ready.l0 k x0 x1 x2 x3 (wrap64 (x9 + 1))))) else (none)) else (none)) else (none)) else (some true)) else (none)) else (none)
def haymowref15_ready.f (k : Nat) (l0 : List (List Int)) (l1 : List Int) (a2 : Int) (a3 : Int) : Option (Bool) := if 0 ≤ a2 then (if a2 < (l1.length : Int) then (if (rd l1 a2) ≥ 0 then (some false) else (haymowref15_ready.l0 k l0 l1 a2 a3 0)) else (none)) else (none)
theorem haymowref15_ready.mono_l : ∀ k, (∀ y0 y1 y2 y3 y4, LeO (haymowref15_ready.l0 k y0 y1 y2 y3 y4) (haymowref15_ready.l0 (k + 1) y0 y1 y2 y3 y4))
  | 0 => fun _ _ _ _ _ r h => by simp [haymowref15_ready.l0] at h
  | k + 1 => by
    have ih0 := haymowref15_ready.mono_l k
    · intro y0 y1 y2 y3 y4
      unfold haymowref15_ready.l0
      repeat' first
      | (with_reducible exact ih0 _ _ _ _ _)
      | (with_reducible exact LeO.refl _)
      | (with_reducible exact LeO.none _)
      | (with_reducible refine LeO.ite ?_ ?_)
      | (with_reducible refine LeO.bind ?_ (fun _ => ?_))
      | exact ih0 _ _ _ _ _
      | exact LeO.none _
      | refine LeO.ite ?_ ?_
      | refine LeO.bind ?_ (fun _ => ?_)
theorem haymowref15_ready.mono : ∀ a0 a1 a2 a3 k, LeO (haymowref15_ready.f k a0 a1 a2 a3) (haymowref15_ready.f (k + 1) a0 a1 a2 a3) := by
  intro a0 a1 a2 a3 k
  have ih0 := haymowref15_ready.mono_l k
  unfold haymowref15_ready.f
  repeat' first
      | (with_reducible exact ih0 _ _ _ _ _)
      | (with_reducible exact LeO.refl _)
      | (with_reducible exact LeO.none _)
      | (with_reducible refine LeO.ite ?_ ?_)
      | (with_reducible refine LeO.bind ?_ (fun _ => ?_))
      | exact ih0 _ _ _ _ _
      | exact LeO.none _
      | refine LeO.ite ?_ ?_
      | refine LeO.bind ?_ (fun _ => ?_)
set_option maxHeartbeats 8000000 in
set_option maxRecDepth 100000 in
theorem haymowref15_ready.calls (k : Nat) (A0 : Option Addr) (c0 : Nat) (l0 : List (List Int)) (A1 : Option Addr) (c1 : Nat) (l1 : List Int) (a2 : Int) (a3 : Int) (r : Bool) (w : World) (hr0 : Kd.C (Kd.slice 3 (Kd.int .i64)) w A0 l0.length l0) (hc0 : l0.length ≤ c0) (hr1 : Kd.C (Kd.int .i64) w A1 l1.length l1) (hc1 : l1.length ≤ c1) (h : haymowref15_ready.f k l0 l1 a2 a3 = some r) :
    Calls Try.prog 24 #[.slice A0 l0.length c0, .slice A1 l1.length c1, .int .i64 a2, .int .i64 a3] w fun e w' => e = .returned (.bool r) ∧ Drawn0 w w' := by
  have HR0 := Aside0.mk hr0
  have HC0 := Aside0.mk hc0
  clear hr0 hc0
  have HR1 := Aside0.mk hr1
  have HC1 := Aside0.mk hc1
  clear hr1 hc1
  have H : (if 0 ≤ a2 then (if a2 < (l1.length : Int) then (if (rd l1 a2) ≥ 0 then (some false) else (haymowref15_ready.l0 k l0 l1 a2 a3 0)) else (none)) else (none)) = some r := h
  clear h
  by_cases c5 : 0 ≤ a2
  · rw [if_pos c5] at H
    have c5b0 : decide (0 ≤ a2) = true := decide_eq_true c5
    clear c5
    by_cases c6 : a2 < (l1.length : Int)
    · rw [if_pos c6] at H
      have c6b0 : decide (a2 < (l1.length : Int)) = true := decide_eq_true c6
      clear c6
      by_cases c7 : (rd l1 a2) ≥ 0
      · rw [if_pos c7] at H
        have c7b0 : decide (0 ≤ (rd l1 a2)) = true := decide_eq_true c7
        clear c7
        obtain rfl := Option.some.inj H
        have p129 : 0 ≤ (a2 : Int) := of_decide_eq_true (by first | (with_reducible assumption) | assumption)
        have q129 : a2 < (l1.length : Int) := of_decide_eq_true (by first | (with_reducible assumption) | assumption)
        obtain ⟨ad129, e129, hx129_0⟩ := Kd.at_int HR1.out a2 p129 q129
        cases e129
        replace p129 := eq_true p129
        replace q129 := eq_true q129
        go_enter Try.func24, Try.ntmps24
        go_wp2
        go_ret
        exact ⟨by first | rfl | (simp; done) | (simp [*]; done), by repeat (first | exact Drawn0.refl _ | apply Drawn0.step)⟩
      · rw [if_neg c7] at H
        have c7b0 : decide (0 ≤ (rd l1 a2)) = false := decide_eq_false c7
        clear c7
        have H' := Aside0.mk H
        clear H
        have p129 : 0 ≤ (a2 : Int) := of_decide_eq_true (by first | (with_reducible assumption) | assumption)
        have q129 : a2 < (l1.length : Int) := of_decide_eq_true (by first | (with_reducible assumption) | assumption)
        obtain ⟨ad129, e129, hx129_0⟩ := Kd.at_int HR1.out a2 p129 q129
        cases e129
        replace p129 := eq_true p129
        replace q129 := eq_true q129
        go_enter Try.func24, Try.ntmps24
        go_wp2
        go_loopg [9] k (fun kq v9 w' => ∃ (x9_1 : Int), v9 = .int .i64 x9_1 ∧ Aside0 (haymowref15_ready.l0 kq l0 l1 a2 a3 x9_1 = some r) ∧ Aside0 (kq ≤ k) ∧ Drawn0 w w')
        case atStart => exact ⟨(0), (by first | rfl | (simp; done) | (simp [*]; done)), H', ⟨Nat.le_refl _⟩, by repeat (first | exact Drawn0.refl _ | apply Drawn0.step)⟩
        case round =>
          clear H'
          try clear c1
          try clear p1
          try clear q1
          try clear hx1
          try clear c2
          try clear p2
          try clear c5
          try clear c5b0
          try clear c6
          try clear c6b0
          try clear c7
          try clear c7b0
          try clear hx129_0
          try clear p129
          try clear q129
          obtain ⟨x9_1, rfl, HA, HK1, ⟨m1, rfl⟩⟩ := hrel
          cases gk with
          | zero => exact absurd HA.out (by simp [haymowref15_ready.l0])
          | succ k1 =>
            have H := HA.out
            clear HA
            simp only [haymowref15_ready.l0] at H
            by_cases c8 : 0 ≤ a2
            · rw [if_pos c8] at H
              have c8b0 : decide (0 ≤ a2) = true := decide_eq_true c8
              clear c8
              by_cases c9 : a2 < (l0.length : Int)
              · rw [if_pos c9] at H
                have c9b0 : decide (a2 < (l0.length : Int)) = true := decide_eq_true c9
                clear c9
                by_cases c10 : x9_1 < ((rd_L1 l0 a2).length : Int)
                · rw [if_pos c10] at H
                  have c10b0 : decide (x9_1 < ((rd_L1 l0 a2).length : Int)) = true := decide_eq_true c10
                  clear c10
                  by_cases c11 : 0 ≤ x9_1
                  · rw [if_pos c11] at H
                    have c11b0 : decide (0 ≤ x9_1) = true := decide_eq_true c11
                    clear c11
                    by_cases c12 : 0 ≤ (rd (rd_L1 l0 a2) x9_1)
                    · rw [if_pos c12] at H
                      have c12b0 : decide (0 ≤ (rd (rd_L1 l0 a2) x9_1)) = true := decide_eq_true c12
                      clear c12
                      by_cases c13 : (rd (rd_L1 l0 a2) x9_1) < (l1.length : Int)
                      · rw [if_pos c13] at H
                        have c13b0 : decide ((rd (rd_L1 l0 a2) x9_1) < (l1.length : Int)) = true := decide_eq_true c13
                        clear c13
                        by_cases c14 : (rd l1 (rd (rd_L1 l0 a2) x9_1)) < 0
                        · rw [if_pos c14] at H
                          have c14b0 : decide ((rd l1 (rd (rd_L1 l0 a2) x9_1)) < 0) = true := decide_eq_true c14
                          clear c14
                          obtain rfl := Option.some.inj H
                          have p130 : 0 ≤ (a2 : Int) := of_decide_eq_true (by first | (with_reducible assumption) | assumption)
                          have q130 : a2 < (l0.length : Int) := of_decide_eq_true (by first | (with_reducible assumption) | assumption)
                          obtain ⟨ad130, A130_0, c130_0, e130, hx130_0, hl130_0, hi130_0⟩ := at_L1 HR0.out a2 p130 q130
                          cases e130
                          have HR130_0 := Aside0.mk hi130_0
                          have HC130_0 := Aside0.mk hl130_0
                          clear hi130_0 hl130_0
                          replace p130 := eq_true p130
                          replace q130 := eq_true q130
                          have p131 : 0 ≤ (a2 : Int) := of_decide_eq_true (by first | (with_reducible assumption) | assumption)
                          have q131 : a2 < (l0.length : Int) := of_decide_eq_true (by first | (with_reducible assumption) | assumption)
                          obtain ⟨ad131, A131_0, c131_0, e131, hx131_0, hl131_0, hi131_0⟩ := at_L1 HR0.out a2 p131 q131
                          obtain rfl : ad130 = ad131 := (by injection e131)
                          have HR131_0 := Aside0.mk hi131_0
                          have HC131_0 := Aside0.mk hl131_0
                          clear hi131_0 hl131_0
                          replace p131 := eq_true p131
                          replace q131 := eq_true q131
                          have ea_ := Option.some.inj (hx130_0.symm.trans hx131_0)
                          injection ea_ with ea_ en_ ec_
                          subst ea_
                          subst ec_
                          clear en_
                          have p132 : 0 ≤ (x9_1 : Int) := of_decide_eq_true (by first | (with_reducible assumption) | assumption)
                          have q132 : x9_1 < ((rd_L1 l0 a2).length : Int) := of_decide_eq_true (by first | (with_reducible assumption) | assumption)
                          obtain ⟨ad132, e132, hx132_0⟩ := Kd.at_int HR131_0.out x9_1 p132 q132
                          cases e132
                          replace p132 := eq_true p132
                          replace q132 := eq_true q132
                          have p133 : 0 ≤ ((rd (rd_L1 l0 a2) x9_1) : Int) := of_decide_eq_true (by first | (with_reducible assumption) | assumption)
                          have q133 : (rd (rd_L1 l0 a2) x9_1) < (l1.length : Int) := of_decide_eq_true (by first | (with_reducible assumption) | assumption)
                          obtain ⟨ad133, e133, hx133_0⟩ := Kd.at_int HR1.out (rd (rd_L1 l0 a2) x9_1) p133 q133
                          obtain rfl : ad129 = ad133 := (by injection e133)
                          replace p133 := eq_true p133
                          replace q133 := eq_true q133
                          go_wp2
                          go_ret
                          exact ⟨by first | rfl | (simp; done) | (simp [*]; done), by repeat (first | exact Drawn0.refl _ | apply Drawn0.step)⟩
                        · rw [if_neg c14] at H
                          have c14b0 : decide ((rd l1 (rd (rd_L1 l0 a2) x9_1)) < 0) = false := decide_eq_false c14
                          clear c14
                          by_cases c15 : (rd l1 (rd (rd_L1 l0 a2) x9_1)) ≥ a3
                          · rw [if_pos c15] at H
                            have c15b0 : decide (a3 ≤ (rd l1 (rd (rd_L1 l0 a2) x9_1))) = true := decide_eq_true c15
                            clear c15
                            obtain rfl := Option.some.inj H
                            have p130 : 0 ≤ (a2 : Int) := of_decide_eq_true (by first | (with_reducible assumption) | assumption)
                            have q130 : a2 < (l0.length : Int) := of_decide_eq_true (by first | (with_reducible assumption) | assumption)
                            obtain ⟨ad130, A130_0, c130_0, e130, hx130_0, hl130_0, hi130_0⟩ := at_L1 HR0.out a2 p130 q130
                            cases e130
                            have HR130_0 := Aside0.mk hi130_0
                            have HC130_0 := Aside0.mk hl130_0
                            clear hi130_0 hl130_0
                            replace p130 := eq_true p130
                            replace q130 := eq_true q130
                            have p131 : 0 ≤ (a2 : Int) := of_decide_eq_true (by first | (with_reducible assumption) | assumption)
                            have q131 : a2 < (l0.length : Int) := of_decide_eq_true (by first | (with_reducible assumption) | assumption)
                            obtain ⟨ad131, A131_0, c131_0, e131, hx131_0, hl131_0, hi131_0⟩ := at_L1 HR0.out a2 p131 q131
                            obtain rfl : ad130 = ad131 := (by injection e131)
                            have HR131_0 := Aside0.mk hi131_0
                            have HC131_0 := Aside0.mk hl131_0
                            clear hi131_0 hl131_0
                            replace p131 := eq_true p131
                            replace q131 := eq_true q131
                            have ea_ := Option.some.inj (hx130_0.symm.trans hx131_0)
                            injection ea_ with ea_ en_ ec_
                            subst ea_
                            subst ec_
                            clear en_
                            have p132 : 0 ≤ (x9_1 : Int) := of_decide_eq_true (by first | (with_reducible assumption) | assumption)
                            have q132 : x9_1 < ((rd_L1 l0 a2).length : Int) := of_decide_eq_true (by first | (with_reducible assumption) | assumption)
                            obtain ⟨ad132, e132, hx132_0⟩ := Kd.at_int HR131_0.out x9_1 p132 q132
                            cases e132
                            replace p132 := eq_true p132
                            replace q132 := eq_true q132
                            have p133 : 0 ≤ ((rd (rd_L1 l0 a2) x9_1) : Int) := of_decide_eq_true (by first | (with_reducible assumption) | assumption)
                            have q133 : (rd (rd_L1 l0 a2) x9_1) < (l1.length : Int) := of_decide_eq_true (by first | (with_reducible assumption) | assumption)
                            obtain ⟨ad133, e133, hx133_0⟩ := Kd.at_int HR1.out (rd (rd_L1 l0 a2) x9_1) p133 q133
                            obtain rfl : ad129 = ad133 := (by injection e133)
                            replace p133 := eq_true p133
                            replace q133 := eq_true q133
                            go_wp2
                            go_ret
                            exact ⟨by first | rfl | (simp; done) | (simp [*]; done), by repeat (first | exact Drawn0.refl _ | apply Drawn0.step)⟩
                          · rw [if_neg c15] at H
                            have c15b0 : decide (a3 ≤ (rd l1 (rd (rd_L1 l0 a2) x9_1))) = false := decide_eq_false c15
                            clear c15
                            have H' := Aside0.mk H
                            clear H
                            have p130 : 0 ≤ (a2 : Int) := of_decide_eq_true (by first | (with_reducible assumption) | assumption)
                            have q130 : a2 < (l0.length : Int) := of_decide_eq_true (by first | (with_reducible assumption) | assumption)
                            obtain ⟨ad130, A130_0, c130_0, e130, hx130_0, hl130_0, hi130_0⟩ := at_L1 HR0.out a2 p130 q130
                            cases e130
                            have HR130_0 := Aside0.mk hi130_0
                            have HC130_0 := Aside0.mk hl130_0
                            clear hi130_0 hl130_0
                            replace p130 := eq_true p130
                            replace q130 := eq_true q130
                            have p131 : 0 ≤ (a2 : Int) := of_decide_eq_true (by first | (with_reducible assumption) | assumption)
                            have q131 : a2 < (l0.length : Int) := of_decide_eq_true (by first | (with_reducible assumption) | assumption)
                            obtain ⟨ad131, A131_0, c131_0, e131, hx131_0, hl131_0, hi131_0⟩ := at_L1 HR0.out a2 p131 q131
                            obtain rfl : ad130 = ad131 := (by injection e131)
                            have HR131_0 := Aside0.mk hi131_0
                            have HC131_0 := Aside0.mk hl131_0
                            clear hi131_0 hl131_0
                            replace p131 := eq_true p131
                            replace q131 := eq_true q131
                            have ea_ := Option.some.inj (hx130_0.symm.trans hx131_0)
                            injection ea_ with ea_ en_ ec_
                            subst ea_
                            subst ec_
                            clear en_
                            have p132 : 0 ≤ (x9_1 : Int) := of_decide_eq_true (by first | (with_reducible assumption) | assumption)
                            have q132 : x9_1 < ((rd_L1 l0 a2).length : Int) := of_decide_eq_true (by first | (with_reducible assumption) | assumption)
                            obtain ⟨ad132, e132, hx132_0⟩ := Kd.at_int HR131_0.out x9_1 p132 q132
                            cases e132
                            replace p132 := eq_true p132
                            replace q132 := eq_true q132
                            have p133 : 0 ≤ ((rd (rd_L1 l0 a2) x9_1) : Int) := of_decide_eq_true (by first | (with_reducible assumption) | assumption)
                            have q133 : (rd (rd_L1 l0 a2) x9_1) < (l1.length : Int) := of_decide_eq_true (by first | (with_reducible assumption) | assumption)
                            obtain ⟨ad133, e133, hx133_0⟩ := Kd.at_int HR1.out (rd (rd_L1 l0 a2) x9_1) p133 q133
                            obtain rfl : ad129 = ad133 := (by injection e133)
                            replace p133 := eq_true p133
                            replace q133 := eq_true q133
                            go_wp2
                            go_roundg k1
                            case measure => have := HK1.out; omega
                            case rel => exact ⟨(wrap64 (x9_1 + 1)), (by first | rfl | (simp; done) | (simp [*]; done)), H', ⟨by have := HK1.out; omega⟩, by repeat (first | exact Drawn0.refl _ | apply Drawn0.step)⟩
                      · rw [if_neg c13] at H
                        exact absurd H (by simp)
                    · rw [if_neg c12] at H
                      exact absurd H (by simp)
                  · rw [if_neg c11] at H
                    exact absurd H (by simp)
                · rw [if_neg c10] at H
                  have c10b0 : decide (x9_1 < ((rd_L1 l0 a2).length : Int)) = false := decide_eq_false c10
                  clear c10
                  obtain rfl := Option.some.inj H
                  have p130 : 0 ≤ (a2 : Int) := of_decide_eq_true (by first | (with_reducible assumption) | assumption)
                  have q130 : a2 < (l0.length : Int) := of_decide_eq_true (by first | (with_reducible assumption) | assumption)
                  obtain ⟨ad130, A130_0, c130_0, e130, hx130_0, hl130_0, hi130_0⟩ := at_L1 HR0.out a2 p130 q130
                  cases e130
                  have HR130_0 := Aside0.mk hi130_0
                  have HC130_0 := Aside0.mk hl130_0
                  clear hi130_0 hl130_0
                  replace p130 := eq_true p130
                  replace q130 := eq_true q130
                  go_wp2
                  go_ret
                  exact ⟨by first | rfl | (simp; done) | (simp [*]; done), by repeat (first | exact Drawn0.refl _ | apply Drawn0.step)⟩
              · rw [if_neg c9] at H
                exact absurd H (by simp)
            · rw [if_neg c8] at H
              exact absurd H (by simp)
    · rw [if_neg c6] at H
      exact absurd H (by simp)
  · rw [if_neg c5] at H
    exact absurd H (by simp)

end Go.Proofs.Ytenmicgohmamaaa.H
