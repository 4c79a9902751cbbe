-- made by this session's gen.py over the kit's print.py; not trusted: Lean checks it
import Derived.Test.YtiplpkjjplicjaaH0
namespace Go.Proofs.Ytiplpkjjplicjaa.H
open Go.RowKit Go.Proofs.YtiplpkjjplicjaaW.PrintWords Go.Proofs.YtiplpkjjplicjaaW.PrintLast Go.Proofs.YtiplpkjjplicjaaW.PrintMore
attribute [local go_sem] max2_int min2_int max_two min_two max_three min_three max_four min_four   -- for this text's walks alone
set_option linter.unusedVariables false
set_option linter.unusedSimpArgs false

/-! ### haymowref07_Many: function 20 -/
mutual
def haymowref07_Many.l0 : Nat → List (S63) → Int → Int → Int → Int → Option (Int × Int)
  | 0, _, _, _, _, _ => none
  | k + 1, x0, x1, x6, x7, x8 => if 0 ≤ x1 then (if x1 < (x0.length : Int) then (if x8 < (((rd_T63 x0 x1).f0).length : Int) then (if 0 ≤ x8 then (if ((rd_T64 ((rd_T63 x0 x1).f0) x8).f0 = true) then (haymowref07_Many.l0 k x0 x1 x6 x7 (wrap64 (x8 + 1))) else (haymowref07_Many.l0 k x0 x1 x6 (wrap64 (x7 + 1)) (wrap64 (x8 + 1)))) else (none)) else (haymowref07_Many.l1 k x0 x1 x6 x7 0)) else (none)) else (none)
def haymowref07_Many.l1 : Nat → List (S63) → Int → Int → Int → Int → Option (Int × Int)
  | 0, _, _, _, _, _ => none
  | k + 1, x0, x1, x6, x7, x9 => if 0 ≤ x1 then (if x1 < (x0.length : Int) then (if x9 < (((rd_T63 x0 x1).f1).length : Int) then (if 0 ≤ x9 then ((haymowref07_Many.f k x0 (rd ((rd_T63 x0 x1).f1) x9)).bind fun bt159 => (haymowref07_Many.l1 k x0 x1 (wrap64 (x6 + bt159.1)) (wrap64 (x7 + bt159.2)) (wrap64 (x9 + 1)))) else (none)) else (some (x6, x7))) else (none)) else (none)
def haymowref07_Many.f : Nat → List (S63) → Int → Option (Int × Int)
  | 0, _, _ => none
  | k + 1, l0, a1 => haymowref07_Many.l0 k l0 a1 1 0 0
end
theorem haymowref07_Many.mono_l : ∀ k, (∀ y0 y1, LeO (haymowref07_Many.f k y0 y1) (haymowref07_Many.f (k + 1) y0 y1)) ∧ (∀ y0 y1 y2 y3 y4, LeO (haymowref07_Many.l0 k y0 y1 y2 y3 y4) (haymowref07_Many.l0 (k + 1) y0 y1 y2 y3 y4)) ∧ (∀ y0 y1 y2 y3 y4, LeO (haymowref07_Many.l1 k y0 y1 y2 y3 y4) (haymowref07_Many.l1 (k + 1) y0 y1 y2 y3 y4))
  | 0 => ⟨fun _ _ r h => by simp [haymowref07_Many.f] at h, fun _ _ _ _ _ r h => by simp [haymowref07_Many.l0] at h, fun _ _ _ _ _ r h => by simp [haymowref07_Many.l1] at h⟩
  | k + 1 => by
    obtain ⟨ih0, ih1, ih2⟩ := haymowref07_Many.mono_l k
    refine ⟨?_, ?_, ?_⟩
    · intro y0 y1
      unfold haymowref07_Many.f
      repeat' first
      | (with_reducible exact ih0 _ _)
      | (with_reducible exact ih1 _ _ _ _ _)
      | (with_reducible exact ih2 _ _ _ _ _)
      | (with_reducible exact LeO.refl _)
      | (with_reducible exact LeO.none _)
      | (with_reducible refine LeO.ite ?_ ?_)
      | (with_reducible refine LeO.bind ?_ (fun _ => ?_))
      | exact ih0 _ _
      | exact ih1 _ _ _ _ _
      | exact ih2 _ _ _ _ _
      | exact LeO.none _
      | refine LeO.ite ?_ ?_
      | refine LeO.bind ?_ (fun _ => ?_)
    · intro y0 y1 y2 y3 y4
      unfold haymowref07_Many.l0
      repeat' first
      | (with_reducible exact ih0 _ _)
      | (with_reducible exact ih1 _ _ _ _ _)
      | (with_reducible exact ih2 _ _ _ _ _)
      | (with_reducible exact LeO.refl _)
      | (with_reducible exact LeO.none _)
      | (with_reducible refine LeO.ite ?_ ?_)
      | (with_reducible refine LeO.bind ?_ (fun _ => ?_))
      | exact ih0 _ _
      | exact ih1 _ _ _ _ _
      | exact ih2 _ _ _ _ _
      | exact LeO.none _
      | refine LeO.ite ?_ ?_
      | refine LeO.bind ?_ (fun _ => ?_)
    · intro y0 y1 y2 y3 y4
      unfold haymowref07_Many.l1
      repeat' first
      | (with_reducible exact ih0 _ _)
      | (with_reducible exact ih1 _ _ _ _ _)
      | (with_reducible exact ih2 _ _ _ _ _)
      | (with_reducible exact LeO.refl _)
      | (with_reducible exact LeO.none _)
      | (with_reducible refine LeO.ite ?_ ?_)
      | (with_reducible refine LeO.bind ?_ (fun _ => ?_))
      | exact ih0 _ _
      | exact ih1 _ _ _ _ _
      | exact ih2 _ _ _ _ _
      | exact LeO.none _
      | refine LeO.ite ?_ ?_
      | refine LeO.bind ?_ (fun _ => ?_)
theorem haymowref07_Many.mono : ∀ a0 a1 k, LeO (haymowref07_Many.f k a0 a1) (haymowref07_Many.f (k + 1) a0 a1) := by
  intro a0 a1 k
  obtain ⟨ih0, ih1, ih2⟩ := haymowref07_Many.mono_l k
  exact ih0 a0 a1
set_option maxHeartbeats 8000000 in
set_option maxRecDepth 100000 in
theorem haymowref07_Many.calls (k : Nat) : ∀ (A0 : Option Addr) (c0 : Nat) (l0 : List (S63)) (a1 : Int) (r1 : Int) (r2 : Int) (w : World) (hr0 : Kd.C k63 w A0 l0.length l0) (hc0 : l0.length ≤ c0) (h : haymowref07_Many.f k l0 a1 = some (r1, r2)),
    Calls Try.prog 20 #[.slice A0 l0.length c0, .int .i64 a1] w fun e w' => e = .returned (.tuple #[.int .i64 r1, .int .i64 r2]) ∧ Drawn0 w w' := by
  induction k using Nat.strongRecOn with
  | _ k ih =>
  intro A0 c0 l0 a1 r1 r2 w hr0 hc0 h
  cases k with
  | zero => exact absurd h (by simp [haymowref07_Many.f])
  | succ k =>
  simp only [haymowref07_Many.f] at h
  have HR0 := Aside0.mk hr0
  have HC0 := Aside0.mk hc0
  clear hr0 hc0
  have H : (haymowref07_Many.l0 k l0 a1 1 0 0) = some (r1, r2) := h
  clear h
  have H' := Aside0.mk H
  clear H
  go_enter Try.func20, Try.ntmps20
  go_wp2
  go_loopg [7, 8] k (fun kq v7 v8 w' => ∃ (x7_1 : Int) (x8_1 : Int), v7 = .int .i64 x7_1 ∧ v8 = .int .i64 x8_1 ∧ Aside0 (haymowref07_Many.l0 kq l0 a1 1 x7_1 x8_1 = some (r1, r2)) ∧ Aside0 (kq ≤ k) ∧ Drawn0 w w')
  case atStart => exact ⟨(0), (0), (by first | rfl | (simp; done) | (simp [*]; done)), (by first | rfl | (simp; done) | (simp [*]; done)), H', ⟨Nat.le_refl _⟩, by repeat (first | exact Drawn0.refl _ | apply Drawn0.step)⟩
  case round =>
    clear H'
    try clear c2
    try clear p2
    obtain ⟨x7_1, x8_1, rfl, rfl, HA, HK1, ⟨m1, rfl⟩⟩ := hrel
    cases gk with
    | zero => exact absurd HA.out (by simp [haymowref07_Many.l0])
    | succ k1 =>
      have H := HA.out
      clear HA
      simp only [haymowref07_Many.l0] at H
      by_cases c3 : 0 ≤ a1
      · rw [if_pos c3] at H
        have c3b0 : decide (0 ≤ a1) = true := decide_eq_true c3
        clear c3
        by_cases c4 : a1 < (l0.length : Int)
        · rw [if_pos c4] at H
          have c4b0 : decide (a1 < (l0.length : Int)) = true := decide_eq_true c4
          clear c4
          by_cases c5 : x8_1 < (((rd_T63 l0 a1).f0).length : Int)
          · rw [if_pos c5] at H
            have c5b0 : decide (x8_1 < (((rd_T63 l0 a1).f0).length : Int)) = true := decide_eq_true c5
            clear c5
            by_cases c6 : 0 ≤ x8_1
            · rw [if_pos c6] at H
              have c6b0 : decide (0 ≤ x8_1) = true := decide_eq_true c6
              clear c6
              obtain ⟨bq7, hbq7⟩ : ∃ b_ : Bool, b_ = ((rd_T64 ((rd_T63 l0 a1).f0) x8_1).f0) := ⟨_, rfl⟩
              replace H : (if (bq7 = true) then (haymowref07_Many.l0 k1 l0 a1 1 x7_1 (wrap64 (x8_1 + 1))) else (haymowref07_Many.l0 k1 l0 a1 1 (wrap64 (x7_1 + 1)) (wrap64 (x8_1 + 1)))) = some (r1, r2) := by rw [← hbq7] at H; exact H
              have Nbq7 := Aside0.mk hbq7
              clear hbq7
              by_cases c8 : (bq7 = true)
              · subst c8
                have H1 : (haymowref07_Many.l0 k1 l0 a1 1 x7_1 (wrap64 (x8_1 + 1))) = some (r1, r2) := by rw [if_pos rfl] at H; exact H
                clear H
                have H := H1
                clear H1
                have H' := Aside0.mk H
                clear H
                have p153 : 0 ≤ (a1 : Int) := of_decide_eq_true (by first | (with_reducible assumption) | assumption)
                have q153 : a1 < (l0.length : Int) := of_decide_eq_true (by first | (with_reducible assumption) | assumption)
                obtain ⟨ad153, A153_0, c153_0, A153_1, c153_1, e153, hx153_0, hx153_1, hx153_2, hx153_3, hl153_0, hi153_0, hl153_1, hi153_1⟩ := at_T63 HR0.out a1 p153 q153
                cases e153
                have HR153_0 := Aside0.mk hi153_0
                have HC153_0 := Aside0.mk hl153_0
                clear hi153_0 hl153_0
                have HR153_1 := Aside0.mk hi153_1
                have HC153_1 := Aside0.mk hl153_1
                clear hi153_1 hl153_1
                replace p153 := eq_true p153
                replace q153 := eq_true q153
                have p154 : 0 ≤ (a1 : Int) := of_decide_eq_true (by first | (with_reducible assumption) | assumption)
                have q154 : a1 < (l0.length : Int) := of_decide_eq_true (by first | (with_reducible assumption) | assumption)
                obtain ⟨ad154, A154_0, c154_0, A154_1, c154_1, e154, hx154_0, hx154_1, hx154_2, hx154_3, hl154_0, hi154_0, hl154_1, hi154_1⟩ := at_T63 HR0.out a1 p154 q154
                obtain rfl : ad153 = ad154 := (by injection e154)
                have HR154_0 := Aside0.mk hi154_0
                have HC154_0 := Aside0.mk hl154_0
                clear hi154_0 hl154_0
                have HR154_1 := Aside0.mk hi154_1
                have HC154_1 := Aside0.mk hl154_1
                clear hi154_1 hl154_1
                replace p154 := eq_true p154
                replace q154 := eq_true q154
                have ea_ := Option.some.inj (hx153_0.symm.trans hx154_0)
                injection ea_ with ea_ en_ ec_
                subst ea_
                subst ec_
                clear en_
                have ea_ := Option.some.inj (hx153_1.symm.trans hx154_1)
                injection ea_ with ea_ en_ ec_
                subst ea_
                subst ec_
                clear en_
                have p155 : 0 ≤ (x8_1 : Int) := of_decide_eq_true (by first | (with_reducible assumption) | assumption)
                have q155 : x8_1 < (((rd_T63 l0 a1).f0).length : Int) := of_decide_eq_true (by first | (with_reducible assumption) | assumption)
                obtain ⟨ad155, e155, hx155_0, hx155_1⟩ := at_T64 HR154_0.out x8_1 p155 q155
                (try rw [← Nbq7.out] at hx155_0)
                cases e155
                replace p155 := eq_true p155
                replace q155 := eq_true q155
                go_wp2
                go_roundg k1
                case measure => have := HK1.out; omega
                case rel => exact ⟨(x7_1), (wrap64 (x8_1 + 1)), (by first | rfl | (simp; done) | (simp [*]; done)), (by first | rfl | (simp; done) | (simp [*]; done)), H', ⟨by have := HK1.out; omega⟩, by repeat (first | exact Drawn0.refl _ | apply Drawn0.step)⟩
              · replace c8 := Bool.eq_false_iff.mpr c8
                subst c8
                have H1 : (haymowref07_Many.l0 k1 l0 a1 1 (wrap64 (x7_1 + 1)) (wrap64 (x8_1 + 1))) = some (r1, r2) := by rw [if_neg (show ¬ (false = true) by decide)] at H; exact H
                clear H
                have H := H1
                clear H1
                have H' := Aside0.mk H
                clear H
                have p153 : 0 ≤ (a1 : Int) := of_decide_eq_true (by first | (with_reducible assumption) | assumption)
                have q153 : a1 < (l0.length : Int) := of_decide_eq_true (by first | (with_reducible assumption) | assumption)
                obtain ⟨ad153, A153_0, c153_0, A153_1, c153_1, e153, hx153_0, hx153_1, hx153_2, hx153_3, hl153_0, hi153_0, hl153_1, hi153_1⟩ := at_T63 HR0.out a1 p153 q153
                cases e153
                have HR153_0 := Aside0.mk hi153_0
                have HC153_0 := Aside0.mk hl153_0
                clear hi153_0 hl153_0
                have HR153_1 := Aside0.mk hi153_1
                have HC153_1 := Aside0.mk hl153_1
                clear hi153_1 hl153_1
                replace p153 := eq_true p153
                replace q153 := eq_true q153
                have p154 : 0 ≤ (a1 : Int) := of_decide_eq_true (by first | (with_reducible assumption) | assumption)
                have q154 : a1 < (l0.length : Int) := of_decide_eq_true (by first | (with_reducible assumption) | assumption)
                obtain ⟨ad154, A154_0, c154_0, A154_1, c154_1, e154, hx154_0, hx154_1, hx154_2, hx154_3, hl154_0, hi154_0, hl154_1, hi154_1⟩ := at_T63 HR0.out a1 p154 q154
                obtain rfl : ad153 = ad154 := (by injection e154)
                have HR154_0 := Aside0.mk hi154_0
                have HC154_0 := Aside0.mk hl154_0
                clear hi154_0 hl154_0
                have HR154_1 := Aside0.mk hi154_1
                have HC154_1 := Aside0.mk hl154_1
                clear hi154_1 hl154_1
                replace p154 := eq_true p154
                replace q154 := eq_true q154
                have ea_ := Option.some.inj (hx153_0.symm.trans hx154_0)
                injection ea_ with ea_ en_ ec_
                subst ea_
                subst ec_
                clear en_
                have ea_ := Option.some.inj (hx153_1.symm.trans hx154_1)
                injection ea_ with ea_ en_ ec_
                subst ea_
                subst ec_
                clear en_
                have p155 : 0 ≤ (x8_1 : Int) := of_decide_eq_true (by first | (with_reducible assumption) | assumption)
                have q155 : x8_1 < (((rd_T63 l0 a1).f0).length : Int) := of_decide_eq_true (by first | (with_reducible assumption) | assumption)
                obtain ⟨ad155, e155, hx155_0, hx155_1⟩ := at_T64 HR154_0.out x8_1 p155 q155
                (try rw [← Nbq7.out] at hx155_0)
                cases e155
                replace p155 := eq_true p155
                replace q155 := eq_true q155
                go_wp2
                go_roundg k1
                case measure => have := HK1.out; omega
                case rel => exact ⟨(wrap64 (x7_1 + 1)), (wrap64 (x8_1 + 1)), (by first | rfl | (simp; done) | (simp [*]; done)), (by first | rfl | (simp; done) | (simp [*]; done)), H', ⟨by have := HK1.out; omega⟩, by repeat (first | exact Drawn0.refl _ | apply Drawn0.step)⟩
            · rw [if_neg c6] at H
              exact absurd H (by simp)
          · rw [if_neg c5] at H
            have c5b0 : decide (x8_1 < (((rd_T63 l0 a1).f0).length : Int)) = false := decide_eq_false c5
            clear c5
            have H' := Aside0.mk H
            clear H
            have p153 : 0 ≤ (a1 : Int) := of_decide_eq_true (by first | (with_reducible assumption) | assumption)
            have q153 : a1 < (l0.length : Int) := of_decide_eq_true (by first | (with_reducible assumption) | assumption)
            obtain ⟨ad153, A153_0, c153_0, A153_1, c153_1, e153, hx153_0, hx153_1, hx153_2, hx153_3, hl153_0, hi153_0, hl153_1, hi153_1⟩ := at_T63 HR0.out a1 p153 q153
            cases e153
            have HR153_0 := Aside0.mk hi153_0
            have HC153_0 := Aside0.mk hl153_0
            clear hi153_0 hl153_0
            have HR153_1 := Aside0.mk hi153_1
            have HC153_1 := Aside0.mk hl153_1
            clear hi153_1 hl153_1
            replace p153 := eq_true p153
            replace q153 := eq_true q153
            go_wp2
            go_loopg [6, 7, 9] k1 (fun kq v6 v7 v9 w' => ∃ (x6_2 : Int) (x7_2 : Int) (x9_2 : Int), v6 = .int .i64 x6_2 ∧ v7 = .int .i64 x7_2 ∧ v9 = .int .i64 x9_2 ∧ Aside0 (haymowref07_Many.l1 kq l0 a1 x6_2 x7_2 x9_2 = some (r1, r2)) ∧ Aside0 (kq ≤ k1) ∧ Drawn0 w w')
            case atStart => exact ⟨(1), (x7_1), (0), (by first | rfl | (simp; done) | (simp [*]; done)), (by first | rfl | (simp; done) | (simp [*]; done)), (by first | rfl | (simp; done) | (simp [*]; done)), H', ⟨Nat.le_refl _⟩, by repeat (first | exact Drawn0.refl _ | apply Drawn0.step)⟩
            case round =>
              clear H'
              try clear c1
              try clear p1
              try clear q1
              try clear hx1
              try clear c2
              try clear p2
              try clear c3
              try clear c3b0
              try clear c4
              try clear c4b0
              try clear c5
              try clear c5b0
              try clear c6
              try clear c6b0
              try clear p6
              try clear q7
              try clear c8
              try clear hx153_0
              try clear hx153_1
              try clear hx153_2
              try clear hx153_3
              try clear hx154_0
              try clear hx154_1
              try clear hx154_2
              try clear hx154_3
              try clear hx155_0
              try clear hx155_1
              try clear p153
              try clear p154
              try clear p155
              try clear p2
              try clear q153
              try clear q154
              try clear q155
              obtain ⟨x6_2, x7_2, x9_2, rfl, rfl, rfl, HA, HK2, ⟨m2, rfl⟩⟩ := hrel
              cases gk with
              | zero => exact absurd HA.out (by simp [haymowref07_Many.l1])
              | succ k2 =>
                have H := HA.out
                clear HA
                simp only [haymowref07_Many.l1] at H
                by_cases c9 : 0 ≤ a1
                · rw [if_pos c9] at H
                  have c9b0 : decide (0 ≤ a1) = true := decide_eq_true c9
                  clear c9
                  by_cases c10 : a1 < (l0.length : Int)
                  · rw [if_pos c10] at H
                    have c10b0 : decide (a1 < (l0.length : Int)) = true := decide_eq_true c10
                    clear c10
                    by_cases c11 : x9_2 < (((rd_T63 l0 a1).f1).length : Int)
                    · rw [if_pos c11] at H
                      have c11b0 : decide (x9_2 < (((rd_T63 l0 a1).f1).length : Int)) = true := decide_eq_true c11
                      clear c11
                      by_cases c12 : 0 ≤ x9_2
                      · rw [if_pos c12] at H
                        have c12b0 : decide (0 ≤ x9_2) = true := decide_eq_true c12
                        clear c12
                        replace H := Option.bind_eq_some_iff.mp H
                        obtain ⟨⟨t159, t160⟩, A130, H⟩ := H
                        replace H : (haymowref07_Many.l1 k2 l0 a1 (wrap64 (x6_2 + t159)) (wrap64 (x7_2 + t160)) (wrap64 (x9_2 + 1))) = some (r1, r2) := H
                        have A13 := Aside0.mk A130
                        clear A130
                        have H' := Aside0.mk H
                        clear H
                        have p156 : 0 ≤ (a1 : Int) := of_decide_eq_true (by first | (with_reducible assumption) | assumption)
                        have q156 : a1 < (l0.length : Int) := of_decide_eq_true (by first | (with_reducible assumption) | assumption)
                        obtain ⟨ad156, A156_0, c156_0, A156_1, c156_1, e156, hx156_0, hx156_1, hx156_2, hx156_3, hl156_0, hi156_0, hl156_1, hi156_1⟩ := at_T63 HR0.out a1 p156 q156
                        obtain rfl : ad153 = ad156 := (by injection e156)
                        have HR156_0 := Aside0.mk hi156_0
                        have HC156_0 := Aside0.mk hl156_0
                        clear hi156_0 hl156_0
                        have HR156_1 := Aside0.mk hi156_1
                        have HC156_1 := Aside0.mk hl156_1
                        clear hi156_1 hl156_1
                        replace p156 := eq_true p156
                        replace q156 := eq_true q156
                        have p157 : 0 ≤ (a1 : Int) := of_decide_eq_true (by first | (with_reducible assumption) | assumption)
                        have q157 : a1 < (l0.length : Int) := of_decide_eq_true (by first | (with_reducible assumption) | assumption)
                        obtain ⟨ad157, A157_0, c157_0, A157_1, c157_1, e157, hx157_0, hx157_1, hx157_2, hx157_3, hl157_0, hi157_0, hl157_1, hi157_1⟩ := at_T63 HR0.out a1 p157 q157
                        obtain rfl : ad153 = ad157 := (by injection e157)
                        have HR157_0 := Aside0.mk hi157_0
                        have HC157_0 := Aside0.mk hl157_0
                        clear hi157_0 hl157_0
                        have HR157_1 := Aside0.mk hi157_1
                        have HC157_1 := Aside0.mk hl157_1
                        clear hi157_1 hl157_1
                        replace p157 := eq_true p157
                        replace q157 := eq_true q157
                        have ea_ := Option.some.inj (hx156_0.symm.trans hx157_0)
                        injection ea_ with ea_ en_ ec_
                        subst ea_
                        subst ec_
                        clear en_
                        have ea_ := Option.some.inj (hx156_1.symm.trans hx157_1)
                        injection ea_ with ea_ en_ ec_
                        subst ea_
                        subst ec_
                        clear en_
                        have p158 : 0 ≤ (x9_2 : Int) := of_decide_eq_true (by first | (with_reducible assumption) | assumption)
                        have q158 : x9_2 < (((rd_T63 l0 a1).f1).length : Int) := of_decide_eq_true (by first | (with_reducible assumption) | assumption)
                        obtain ⟨ad158, e158, hx158_0⟩ := Kd.at_int HR157_1.out x9_2 p158 q158
                        cases e158
                        replace p158 := eq_true p158
                        replace q158 := eq_true q158
                        go_wp2_with (first | ((with_reducible refine gate_callee (f := 20) rfl ?_); refine goesL_ (some 54) rfl rfl Try.func20 (by kernel_rfl) rfl #[.slice (some ad153) l0.length c0, .int .i64 (rd ((rd_T63 l0 a1).f1) x9_2)] rfl (by (try simp only [List.map_toArray, List.map_cons, List.map_nil]); first | done | rfl | (simp only [List.length_drop, List.length_take]; rfl)) ?_; (with_reducible refine (ih k2 (by have := HK1.out; have := HK2.out; omega) _ _ l0 (rd ((rd_T63 l0 a1).f1) x9_2) t159 t160 _ ?side1 ?side2 A13.out).mono ?_); (case side1 => repeat (first | exact HR0.out | (with_reducible refine Kd.C_alloc ?_ _) | (with_reducible refine Kd.C_drewN ?_ _) | (with_reducible refine Kd.C_drew ?_))); (case side2 => exact HC0.out); rintro e w' ⟨rfl, ⟨nd, rfl⟩⟩; refine ⟨_, rfl, ?_⟩))
                        go_roundg k2
                        case measure => have := HK1.out; have := HK2.out; omega
                        case rel => exact ⟨(wrap64 (x6_2 + t159)), (wrap64 (x7_2 + t160)), (wrap64 (x9_2 + 1)), (by first | rfl | (simp; done) | (simp [*]; done)), (by first | rfl | (simp; done) | (simp [*]; done)), (by first | rfl | (simp; done) | (simp [*]; done)), H', ⟨by have := HK1.out; have := HK2.out; omega⟩, by repeat (first | exact Drawn0.refl _ | apply Drawn0.step)⟩
                      · rw [if_neg c12] at H
                        exact absurd H (by simp)
                    · rw [if_neg c11] at H
                      have c11b0 : decide (x9_2 < (((rd_T63 l0 a1).f1).length : Int)) = false := decide_eq_false c11
                      clear c11
                      simp only [Option.some.injEq, Prod.mk.injEq] at H
                      obtain ⟨rfl, rfl⟩ := H
                      have p156 : 0 ≤ (a1 : Int) := of_decide_eq_true (by first | (with_reducible assumption) | assumption)
                      have q156 : a1 < (l0.length : Int) := of_decide_eq_true (by first | (with_reducible assumption) | assumption)
                      obtain ⟨ad156, A156_0, c156_0, A156_1, c156_1, e156, hx156_0, hx156_1, hx156_2, hx156_3, hl156_0, hi156_0, hl156_1, hi156_1⟩ := at_T63 HR0.out a1 p156 q156
                      obtain rfl : ad153 = ad156 := (by injection e156)
                      have HR156_0 := Aside0.mk hi156_0
                      have HC156_0 := Aside0.mk hl156_0
                      clear hi156_0 hl156_0
                      have HR156_1 := Aside0.mk hi156_1
                      have HC156_1 := Aside0.mk hl156_1
                      clear hi156_1 hl156_1
                      replace p156 := eq_true p156
                      replace q156 := eq_true q156
                      go_wp2
                      go_ret2
                      exact ⟨by first | rfl | (simp; done) | (simp [*]; done), by repeat (first | exact Drawn0.refl _ | apply Drawn0.step)⟩
                  · rw [if_neg c10] at H
                    exact absurd H (by simp)
                · rw [if_neg c9] at H
                  exact absurd H (by simp)
        · rw [if_neg c4] at H
          exact absurd H (by simp)
      · rw [if_neg c3] at H
        exact absurd H (by simp)

end Go.Proofs.Ytiplpkjjplicjaa.H
