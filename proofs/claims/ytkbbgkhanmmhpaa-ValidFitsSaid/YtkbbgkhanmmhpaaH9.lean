-- made by this session's gen.py over the kit's print.py; not trusted: Lean checks it
import Derived.Test.YtkbbgkhanmmhpaaH0
import Derived.Test.YtkbbgkhanmmhpaaH8
namespace Go.Proofs.Ytkbbgkhanmmhpaa.H
open Go.RowKit Go.Proofs.YtkbbgkhanmmhpaaW.PrintWords Go.Proofs.YtkbbgkhanmmhpaaW.PrintLast Go.Proofs.YtkbbgkhanmmhpaaW.PrintMore
attribute [local go_sem] max2_int min2_int max_two min_two max_three min_three max_four min_four   -- for this text's walks alone
set_option linter.unusedVariables false
set_option linter.unusedSimpArgs false

/-! ### haymowref03_instr: function 19 -/
mutual
def haymowref03_instr.j0 : Nat → List (S50) → Int → Bool → Int → Int → Int → Int → Int → Option (Int)
  | 0, _, _, _, _, _, _, _, _ => none
  | k + 1, x0, x1, x18, x130000, x130001, x130002, x130003, x130004 => if x18 = true then (some 4) else ((haymowref03_Uses.f x130000).bind fun t130 => (haymowref03_instr.l0 k x0 x1 t130 (([x130001, x130002, x130003, x130004] : List Int)) 0 x130000 x130001 x130002 x130003 x130004))
def haymowref03_instr.l0 : Nat → List (S50) → Int → ByteArray → List Int → Int → Int → Int → Int → Int → Int → Option (Int)
  | 0, _, _, _, _, _, _, _, _, _, _ => none
  | k + 1, x0, x1, x7, x8, x9, x130000, x130001, x130002, x130003, x130004 => if x9 < 4 then (if 0 ≤ x9 then (if x9 < (x7.size : Int) then (if (bt x7 x9) = 48 then (if x9 < (x8.length : Int) then (if (rd x8 x9) = 0 then (haymowref03_instr.l0 k x0 x1 x7 x8 (wrap64 (x9 + 1)) x130000 x130001 x130002 x130003 x130004) else (some 4)) else (none)) else (haymowref03_instr.l0 k x0 x1 x7 x8 (wrap64 (x9 + 1)) x130000 x130001 x130002 x130003 x130004)) else (none)) else (none)) else (haymowref03_instr.l1 k x0 x1 x7 x8 0 x130000 x130001 x130002 x130003 x130004)
def haymowref03_instr.l1 : Nat → List (S50) → Int → ByteArray → List Int → Int → Int → Int → Int → Int → Int → Option (Int)
  | 0, _, _, _, _, _, _, _, _, _, _ => none
  | k + 1, x0, x1, x7, x8, x10, x130000, x130001, x130002, x130003, x130004 => if x10 < 4 then (if 0 ≤ x10 then (if x10 < (x7.size : Int) then (if (bt x7 x10) = 114 then (if x10 < (x8.length : Int) then (if (rd x8 x10) < 0 then (haymowref03_instr.j3 k x0 x1 x7 x8 x10 true x130000 x130001 x130002 x130003 x130004) else (haymowref03_instr.j3 k x0 x1 x7 x8 x10 (decide ((rd x8 x10) > 7)) x130000 x130001 x130002 x130003 x130004)) else (none)) else (haymowref03_instr.j3 k x0 x1 x7 x8 x10 false x130000 x130001 x130002 x130003 x130004)) else (none)) else (none)) else (if 2 < (x7.size : Int) then (if (bt x7 2) = 102 then (if 0 ≤ x130003 then (if x130003 < (x0.length : Int) then (if ((rd_T50 x0 x130003).f0) > (wrap64 (8 - x130002)) then (some 6) else (some 0)) else (none)) else (none)) else (some 0)) else (none))
def haymowref03_instr.j3 : Nat → List (S50) → Int → ByteArray → List Int → Int → Bool → Int → Int → Int → Int → Int → Option (Int)
  | 0, _, _, _, _, _, _, _, _, _, _, _ => none
  | k + 1, x0, x1, x7, x8, x10, x50, x130000, x130001, x130002, x130003, x130004 => if x50 = true then (haymowref03_instr.j4 k x0 x1 x7 x8 x10 x50 x130000 x130001 x130002 x130003 x130004) else (if 0 ≤ x10 then (if x10 < (x7.size : Int) then (if (bt x7 x10) = 104 then (if x10 < (x8.length : Int) then (if (rd x8 x10) < 0 then (haymowref03_instr.j4 k x0 x1 x7 x8 x10 true x130000 x130001 x130002 x130003 x130004) else (haymowref03_instr.j4 k x0 x1 x7 x8 x10 (decide ((rd x8 x10) > 3)) x130000 x130001 x130002 x130003 x130004)) else (none)) else (haymowref03_instr.j4 k x0 x1 x7 x8 x10 false x130000 x130001 x130002 x130003 x130004)) else (none)) else (none))
def haymowref03_instr.j4 : Nat → List (S50) → Int → ByteArray → List Int → Int → Bool → Int → Int → Int → Int → Int → Option (Int)
  | 0, _, _, _, _, _, _, _, _, _, _, _ => none
  | k + 1, x0, x1, x7, x8, x10, x50, x130000, x130001, x130002, x130003, x130004 => if x50 = true then (some 6) else (if 0 ≤ x10 then (if x10 < (x7.size : Int) then (if (bt x7 x10) = 102 then (if x10 < (x8.length : Int) then (if (rd x8 x10) < 0 then (haymowref03_instr.j5 k x0 x1 x7 x8 x10 true x130000 x130001 x130002 x130003 x130004) else (haymowref03_instr.j5 k x0 x1 x7 x8 x10 (decide ((rd x8 x10) ≥ (x0.length : Int))) x130000 x130001 x130002 x130003 x130004)) else (none)) else (haymowref03_instr.j5 k x0 x1 x7 x8 x10 false x130000 x130001 x130002 x130003 x130004)) else (none)) else (none))
def haymowref03_instr.j5 : Nat → List (S50) → Int → ByteArray → List Int → Int → Bool → Int → Int → Int → Int → Int → Option (Int)
  | 0, _, _, _, _, _, _, _, _, _, _, _ => none
  | k + 1, x0, x1, x7, x8, x10, x87, x130000, x130001, x130002, x130003, x130004 => if x87 = true then (some 5) else (if 0 ≤ x10 then (if x10 < (x7.size : Int) then (if (bt x7 x10) = 116 then (if x10 < (x8.length : Int) then (if (rd x8 x10) < 0 then (haymowref03_instr.j6 k x0 x1 x7 x8 x10 true x130000 x130001 x130002 x130003 x130004) else (if 0 ≤ x1 then (if x1 < (x0.length : Int) then (haymowref03_instr.j6 k x0 x1 x7 x8 x10 (decide ((rd x8 x10) ≥ (((rd_T50 x0 x1).f1).length : Int))) x130000 x130001 x130002 x130003 x130004) else (none)) else (none))) else (none)) else (haymowref03_instr.j6 k x0 x1 x7 x8 x10 false x130000 x130001 x130002 x130003 x130004)) else (none)) else (none))
def haymowref03_instr.j6 : Nat → List (S50) → Int → ByteArray → List Int → Int → Bool → Int → Int → Int → Int → Int → Option (Int)
  | 0, _, _, _, _, _, _, _, _, _, _, _ => none
  | k + 1, x0, x1, x7, x8, x10, x108, x130000, x130001, x130002, x130003, x130004 => if x108 = true then (some 6) else (if 0 ≤ x10 then (if x10 < (x7.size : Int) then (if (bt x7 x10) = 99 then (if x10 < (x8.length : Int) then (if (rd x8 x10) < 16 then (haymowref03_instr.j7 k x0 x1 x7 x8 x10 true x130000 x130001 x130002 x130003 x130004) else (haymowref03_instr.j7 k x0 x1 x7 x8 x10 (decide ((rd x8 x10) > 2147483647)) x130000 x130001 x130002 x130003 x130004)) else (none)) else (haymowref03_instr.j7 k x0 x1 x7 x8 x10 false x130000 x130001 x130002 x130003 x130004)) else (none)) else (none))
def haymowref03_instr.j7 : Nat → List (S50) → Int → ByteArray → List Int → Int → Bool → Int → Int → Int → Int → Int → Option (Int)
  | 0, _, _, _, _, _, _, _, _, _, _, _ => none
  | k + 1, x0, x1, x7, x8, x10, x133, x130000, x130001, x130002, x130003, x130004 => if x133 = true then (some 6) else (if 0 ≤ x10 then (if x10 < (x7.size : Int) then (if (bt x7 x10) = 110 then (if x10 < (x8.length : Int) then (if (rd x8 x10) < (-2147483648) then (some 6) else (if (rd x8 x10) > 2147483647 then (some 6) else (haymowref03_instr.l1 k x0 x1 x7 x8 (wrap64 (x10 + 1)) x130000 x130001 x130002 x130003 x130004))) else (none)) else (haymowref03_instr.l1 k x0 x1 x7 x8 (wrap64 (x10 + 1)) x130000 x130001 x130002 x130003 x130004)) else (none)) else (none))
end
def haymowref03_instr.f (k : Nat) (l0 : List (S50)) (a1 : Int) (a2_0 : Int) (a2_1 : Int) (a2_2 : Int) (a2_3 : Int) (a2_4 : Int) : Option (Int) := if a2_0 < 1 then (haymowref03_instr.j0 k l0 a1 true a2_0 a2_1 a2_2 a2_3 a2_4) else (haymowref03_instr.j0 k l0 a1 (decide (a2_0 > 17)) a2_0 a2_1 a2_2 a2_3 a2_4)
theorem haymowref03_instr.mono_l : ∀ k, (∀ y0 y1 y2 y3 y4 y5 y6 y7, LeO (haymowref03_instr.j0 k y0 y1 y2 y3 y4 y5 y6 y7) (haymowref03_instr.j0 (k + 1) y0 y1 y2 y3 y4 y5 y6 y7)) ∧ (∀ y0 y1 y2 y3 y4 y5 y6 y7 y8 y9, LeO (haymowref03_instr.l0 k y0 y1 y2 y3 y4 y5 y6 y7 y8 y9) (haymowref03_instr.l0 (k + 1) y0 y1 y2 y3 y4 y5 y6 y7 y8 y9)) ∧ (∀ y0 y1 y2 y3 y4 y5 y6 y7 y8 y9, LeO (haymowref03_instr.l1 k y0 y1 y2 y3 y4 y5 y6 y7 y8 y9) (haymowref03_instr.l1 (k + 1) y0 y1 y2 y3 y4 y5 y6 y7 y8 y9)) ∧ (∀ y0 y1 y2 y3 y4 y5 y6 y7 y8 y9 y10, LeO (haymowref03_instr.j3 k y0 y1 y2 y3 y4 y5 y6 y7 y8 y9 y10) (haymowref03_instr.j3 (k + 1) y0 y1 y2 y3 y4 y5 y6 y7 y8 y9 y10)) ∧ (∀ y0 y1 y2 y3 y4 y5 y6 y7 y8 y9 y10, LeO (haymowref03_instr.j4 k y0 y1 y2 y3 y4 y5 y6 y7 y8 y9 y10) (haymowref03_instr.j4 (k + 1) y0 y1 y2 y3 y4 y5 y6 y7 y8 y9 y10)) ∧ (∀ y0 y1 y2 y3 y4 y5 y6 y7 y8 y9 y10, LeO (haymowref03_instr.j5 k y0 y1 y2 y3 y4 y5 y6 y7 y8 y9 y10) (haymowref03_instr.j5 (k + 1) y0 y1 y2 y3 y4 y5 y6 y7 y8 y9 y10)) ∧ (∀ y0 y1 y2 y3 y4 y5 y6 y7 y8 y9 y10, LeO (haymowref03_instr.j6 k y0 y1 y2 y3 y4 y5 y6 y7 y8 y9 y10) (haymowref03_instr.j6 (k + 1) y0 y1 y2 y3 y4 y5 y6 y7 y8 y9 y10)) ∧ (∀ y0 y1 y2 y3 y4 y5 y6 y7 y8 y9 y10, LeO (haymowref03_instr.j7 k y0 y1 y2 y3 y4 y5 y6 y7 y8 y9 y10) (haymowref03_instr.j7 (k + 1) y0 y1 y2 y3 y4 y5 y6 y7 y8 y9 y10))
  | 0 => ⟨fun _ _ _ _ _ _ _ _ r h => by simp [haymowref03_instr.j0] at h, fun _ _ _ _ _ _ _ _ _ _ r h => by simp [haymowref03_instr.l0] at h, fun _ _ _ _ _ _ _ _ _ _ r h => by simp [haymowref03_instr.l1] at h, fun _ _ _ _ _ _ _ _ _ _ _ r h => by simp [haymowref03_instr.j3] at h, fun _ _ _ _ _ _ _ _ _ _ _ r h => by simp [haymowref03_instr.j4] at h, fun _ _ _ _ _ _ _ _ _ _ _ r h => by simp [haymowref03_instr.j5] at h, fun _ _ _ _ _ _ _ _ _ _ _ r h => by simp [haymowref03_instr.j6] at h, fun _ _ _ _ _ _ _ _ _ _ _ r h => by simp [haymowref03_instr.j7] at h⟩
  | k + 1 => by
    obtain ⟨ih0, ih1, ih2, ih3, ih4, ih5, ih6, ih7⟩ := haymowref03_instr.mono_l k
    refine ⟨?_, ?_, ?_, ?_, ?_, ?_, ?_, ?_⟩
    · intro y0 y1 y2 y3 y4 y5 y6 y7
      unfold haymowref03_instr.j0
      repeat' first
      | (with_reducible exact ih0 _ _ _ _ _ _ _ _)
      | (with_reducible exact ih1 _ _ _ _ _ _ _ _ _ _)
      | (with_reducible exact ih2 _ _ _ _ _ _ _ _ _ _)
      | (with_reducible exact ih3 _ _ _ _ _ _ _ _ _ _ _)
      | (with_reducible exact ih4 _ _ _ _ _ _ _ _ _ _ _)
      | (with_reducible exact ih5 _ _ _ _ _ _ _ _ _ _ _)
      | (with_reducible exact ih6 _ _ _ _ _ _ _ _ _ _ _)
      | (with_reducible exact ih7 _ _ _ _ _ _ _ _ _ _ _)
      | (with_reducible exact LeO.refl _)
      | (with_reducible exact LeO.none _)
      | (with_reducible refine LeO.ite ?_ ?_)
      | (with_reducible refine LeO.bind ?_ (fun _ => ?_))
      | exact ih0 _ _ _ _ _ _ _ _
      | exact ih1 _ _ _ _ _ _ _ _ _ _
      | exact ih2 _ _ _ _ _ _ _ _ _ _
      | exact ih3 _ _ _ _ _ _ _ _ _ _ _
      | exact ih4 _ _ _ _ _ _ _ _ _ _ _
      | exact ih5 _ _ _ _ _ _ _ _ _ _ _
      | exact ih6 _ _ _ _ _ _ _ _ _ _ _
      | exact ih7 _ _ _ _ _ _ _ _ _ _ _
      | exact LeO.none _
      | refine LeO.ite ?_ ?_
      | refine LeO.bind ?_ (fun _ => ?_)
    · intro y0 y1 y2 y3 y4 y5 y6 y7 y8 y9
      unfold haymowref03_instr.l0
      repeat' first
      | (with_reducible exact ih0 _ _ _ _ _ _ _ _)
      | (with_reducible exact ih1 _ _ _ _ _ _ _ _ _ _)
      | (with_reducible exact ih2 _ _ _ _ _ _ _ _ _ _)
      | (with_reducible exact ih3 _ _ _ _ _ _ _ _ _ _ _)
      | (with_reducible exact ih4 _ _ _ _ _ _ _ _ _ _ _)
      | (with_reducible exact ih5 _ _ _ _ _ _ _ _ _ _ _)
      | (with_reducible exact ih6 _ _ _ _ _ _ _ _ _ _ _)
      | (with_reducible exact ih7 _ _ _ _ _ _ _ _ _ _ _)
      | (with_reducible exact LeO.refl _)
      | (with_reducible exact LeO.none _)
      | (with_reducible refine LeO.ite ?_ ?_)
      | (with_reducible refine LeO.bind ?_ (fun _ => ?_))
      | exact ih0 _ _ _ _ _ _ _ _
      | exact ih1 _ _ _ _ _ _ _ _ _ _
      | exact ih2 _ _ _ _ _ _ _ _ _ _
      | exact ih3 _ _ _ _ _ _ _ _ _ _ _
      | exact ih4 _ _ _ _ _ _ _ _ _ _ _
      | exact ih5 _ _ _ _ _ _ _ _ _ _ _
      | exact ih6 _ _ _ _ _ _ _ _ _ _ _
      | exact ih7 _ _ _ _ _ _ _ _ _ _ _
      | exact LeO.none _
      | refine LeO.ite ?_ ?_
      | refine LeO.bind ?_ (fun _ => ?_)
    · intro y0 y1 y2 y3 y4 y5 y6 y7 y8 y9
      unfold haymowref03_instr.l1
      repeat' first
      | (with_reducible exact ih0 _ _ _ _ _ _ _ _)
      | (with_reducible exact ih1 _ _ _ _ _ _ _ _ _ _)
      | (with_reducible exact ih2 _ _ _ _ _ _ _ _ _ _)
      | (with_reducible exact ih3 _ _ _ _ _ _ _ _ _ _ _)
      | (with_reducible exact ih4 _ _ _ _ _ _ _ _ _ _ _)
      | (with_reducible exact ih5 _ _ _ _ _ _ _ _ _ _ _)
      | (with_reducible exact ih6 _ _ _ _ _ _ _ _ _ _ _)
      | (with_reducible exact ih7 _ _ _ _ _ _ _ _ _ _ _)
      | (with_reducible exact LeO.refl _)
      | (with_reducible exact LeO.none _)
      | (with_reducible refine LeO.ite ?_ ?_)
      | (with_reducible refine LeO.bind ?_ (fun _ => ?_))
      | exact ih0 _ _ _ _ _ _ _ _
      | exact ih1 _ _ _ _ _ _ _ _ _ _
      | exact ih2 _ _ _ _ _ _ _ _ _ _
      | exact ih3 _ _ _ _ _ _ _ _ _ _ _
      | exact ih4 _ _ _ _ _ _ _ _ _ _ _
      | exact ih5 _ _ _ _ _ _ _ _ _ _ _
      | exact ih6 _ _ _ _ _ _ _ _ _ _ _
      | exact ih7 _ _ _ _ _ _ _ _ _ _ _
      | exact LeO.none _
      | refine LeO.ite ?_ ?_
      | refine LeO.bind ?_ (fun _ => ?_)
    · intro y0 y1 y2 y3 y4 y5 y6 y7 y8 y9 y10
      unfold haymowref03_instr.j3
      repeat' first
      | (with_reducible exact ih0 _ _ _ _ _ _ _ _)
      | (with_reducible exact ih1 _ _ _ _ _ _ _ _ _ _)
      | (with_reducible exact ih2 _ _ _ _ _ _ _ _ _ _)
      | (with_reducible exact ih3 _ _ _ _ _ _ _ _ _ _ _)
      | (with_reducible exact ih4 _ _ _ _ _ _ _ _ _ _ _)
      | (with_reducible exact ih5 _ _ _ _ _ _ _ _ _ _ _)
      | (with_reducible exact ih6 _ _ _ _ _ _ _ _ _ _ _)
      | (with_reducible exact ih7 _ _ _ _ _ _ _ _ _ _ _)
      | (with_reducible exact LeO.refl _)
      | (with_reducible exact LeO.none _)
      | (with_reducible refine LeO.ite ?_ ?_)
      | (with_reducible refine LeO.bind ?_ (fun _ => ?_))
      | exact ih0 _ _ _ _ _ _ _ _
      | exact ih1 _ _ _ _ _ _ _ _ _ _
      | exact ih2 _ _ _ _ _ _ _ _ _ _
      | exact ih3 _ _ _ _ _ _ _ _ _ _ _
      | exact ih4 _ _ _ _ _ _ _ _ _ _ _
      | exact ih5 _ _ _ _ _ _ _ _ _ _ _
      | exact ih6 _ _ _ _ _ _ _ _ _ _ _
      | exact ih7 _ _ _ _ _ _ _ _ _ _ _
      | exact LeO.none _
      | refine LeO.ite ?_ ?_
      | refine LeO.bind ?_ (fun _ => ?_)
    · intro y0 y1 y2 y3 y4 y5 y6 y7 y8 y9 y10
      unfold haymowref03_instr.j4
      repeat' first
      | (with_reducible exact ih0 _ _ _ _ _ _ _ _)
      | (with_reducible exact ih1 _ _ _ _ _ _ _ _ _ _)
      | (with_reducible exact ih2 _ _ _ _ _ _ _ _ _ _)
      | (with_reducible exact ih3 _ _ _ _ _ _ _ _ _ _ _)
      | (with_reducible exact ih4 _ _ _ _ _ _ _ _ _ _ _)
      | (with_reducible exact ih5 _ _ _ _ _ _ _ _ _ _ _)
      | (with_reducible exact ih6 _ _ _ _ _ _ _ _ _ _ _)
      | (with_reducible exact ih7 _ _ _ _ _ _ _ _ _ _ _)
      | (with_reducible exact LeO.refl _)
      | (with_reducible exact LeO.none _)
      | (with_reducible refine LeO.ite ?_ ?_)
      | (with_reducible refine LeO.bind ?_ (fun _ => ?_))
      | exact ih0 _ _ _ _ _ _ _ _
      | exact ih1 _ _ _ _ _ _ _ _ _ _
      | exact ih2 _ _ _ _ _ _ _ _ _ _
      | exact ih3 _ _ _ _ _ _ _ _ _ _ _
      | exact ih4 _ _ _ _ _ _ _ _ _ _ _
      | exact ih5 _ _ _ _ _ _ _ _ _ _ _
      | exact ih6 _ _ _ _ _ _ _ _ _ _ _
      | exact ih7 _ _ _ _ _ _ _ _ _ _ _
      | exact LeO.none _
      | refine LeO.ite ?_ ?_
      | refine LeO.bind ?_ (fun _ => ?_)
    · intro y0 y1 y2 y3 y4 y5 y6 y7 y8 y9 y10
      unfold haymowref03_instr.j5
      repeat' first
      | (with_reducible exact ih0 _ _ _ _ _ _ _ _)
      | (with_reducible exact ih1 _ _ _ _ _ _ _ _ _ _)
      | (with_reducible exact ih2 _ _ _ _ _ _ _ _ _ _)
      | (with_reducible exact ih3 _ _ _ _ _ _ _ _ _ _ _)
      | (with_reducible exact ih4 _ _ _ _ _ _ _ _ _ _ _)
      | (with_reducible exact ih5 _ _ _ _ _ _ _ _ _ _ _)
      | (with_reducible exact ih6 _ _ _ _ _ _ _ _ _ _ _)
      | (with_reducible exact ih7 _ _ _ _ _ _ _ _ _ _ _)
      | (with_reducible exact LeO.refl _)
      | (with_reducible exact LeO.none _)
      | (with_reducible refine LeO.ite ?_ ?_)
      | (with_reducible refine LeO.bind ?_ (fun _ => ?_))
      | exact ih0 _ _ _ _ _ _ _ _
      | exact ih1 _ _ _ _ _ _ _ _ _ _
      | exact ih2 _ _ _ _ _ _ _ _ _ _
      | exact ih3 _ _ _ _ _ _ _ _ _ _ _
      | exact ih4 _ _ _ _ _ _ _ _ _ _ _
      | exact ih5 _ _ _ _ _ _ _ _ _ _ _
      | exact ih6 _ _ _ _ _ _ _ _ _ _ _
      | exact ih7 _ _ _ _ _ _ _ _ _ _ _
      | exact LeO.none _
      | refine LeO.ite ?_ ?_
      | refine LeO.bind ?_ (fun _ => ?_)
    · intro y0 y1 y2 y3 y4 y5 y6 y7 y8 y9 y10
      unfold haymowref03_instr.j6
      repeat' first
      | (with_reducible exact ih0 _ _ _ _ _ _ _ _)
      | (with_reducible exact ih1 _ _ _ _ _ _ _ _ _ _)
      | (with_reducible exact ih2 _ _ _ _ _ _ _ _ _ _)
      | (with_reducible exact ih3 _ _ _ _ _ _ _ _ _ _ _)
      | (with_reducible exact ih4 _ _ _ _ _ _ _ _ _ _ _)
      | (with_reducible exact ih5 _ _ _ _ _ _ _ _ _ _ _)
      | (with_reducible exact ih6 _ _ _ _ _ _ _ _ _ _ _)
      | (with_reducible exact ih7 _ _ _ _ _ _ _ _ _ _ _)
      | (with_reducible exact LeO.refl _)
      | (with_reducible exact LeO.none _)
      | (with_reducible refine LeO.ite ?_ ?_)
      | (with_reducible refine LeO.bind ?_ (fun _ => ?_))
      | exact ih0 _ _ _ _ _ _ _ _
      | exact ih1 _ _ _ _ _ _ _ _ _ _
      | exact ih2 _ _ _ _ _ _ _ _ _ _
      | exact ih3 _ _ _ _ _ _ _ _ _ _ _
      | exact ih4 _ _ _ _ _ _ _ _ _ _ _
      | exact ih5 _ _ _ _ _ _ _ _ _ _ _
      | exact ih6 _ _ _ _ _ _ _ _ _ _ _
      | exact ih7 _ _ _ _ _ _ _ _ _ _ _
      | exact LeO.none _
      | refine LeO.ite ?_ ?_
      | refine LeO.bind ?_ (fun _ => ?_)
    · intro y0 y1 y2 y3 y4 y5 y6 y7 y8 y9 y10
      unfold haymowref03_instr.j7
      repeat' first
      | (with_reducible exact ih0 _ _ _ _ _ _ _ _)
      | (with_reducible exact ih1 _ _ _ _ _ _ _ _ _ _)
      | (with_reducible exact ih2 _ _ _ _ _ _ _ _ _ _)
      | (with_reducible exact ih3 _ _ _ _ _ _ _ _ _ _ _)
      | (with_reducible exact ih4 _ _ _ _ _ _ _ _ _ _ _)
      | (with_reducible exact ih5 _ _ _ _ _ _ _ _ _ _ _)
      | (with_reducible exact ih6 _ _ _ _ _ _ _ _ _ _ _)
      | (with_reducible exact ih7 _ _ _ _ _ _ _ _ _ _ _)
      | (with_reducible exact LeO.refl _)
      | (with_reducible exact LeO.none _)
      | (with_reducible refine LeO.ite ?_ ?_)
      | (with_reducible refine LeO.bind ?_ (fun _ => ?_))
      | exact ih0 _ _ _ _ _ _ _ _
      | exact ih1 _ _ _ _ _ _ _ _ _ _
      | exact ih2 _ _ _ _ _ _ _ _ _ _
      | exact ih3 _ _ _ _ _ _ _ _ _ _ _
      | exact ih4 _ _ _ _ _ _ _ _ _ _ _
      | exact ih5 _ _ _ _ _ _ _ _ _ _ _
      | exact ih6 _ _ _ _ _ _ _ _ _ _ _
      | exact ih7 _ _ _ _ _ _ _ _ _ _ _
      | exact LeO.none _
      | refine LeO.ite ?_ ?_
      | refine LeO.bind ?_ (fun _ => ?_)
theorem haymowref03_instr.mono : ∀ a0 a1 a2 a3 a4 a5 a6 k, LeO (haymowref03_instr.f k a0 a1 a2 a3 a4 a5 a6) (haymowref03_instr.f (k + 1) a0 a1 a2 a3 a4 a5 a6) := by
  intro a0 a1 a2 a3 a4 a5 a6 k
  obtain ⟨ih0, ih1, ih2, ih3, ih4, ih5, ih6, ih7⟩ := haymowref03_instr.mono_l k
  unfold haymowref03_instr.f
  repeat' first
      | (with_reducible exact ih0 _ _ _ _ _ _ _ _)
      | (with_reducible exact ih1 _ _ _ _ _ _ _ _ _ _)
      | (with_reducible exact ih2 _ _ _ _ _ _ _ _ _ _)
      | (with_reducible exact ih3 _ _ _ _ _ _ _ _ _ _ _)
      | (with_reducible exact ih4 _ _ _ _ _ _ _ _ _ _ _)
      | (with_reducible exact ih5 _ _ _ _ _ _ _ _ _ _ _)
      | (with_reducible exact ih6 _ _ _ _ _ _ _ _ _ _ _)
      | (with_reducible exact ih7 _ _ _ _ _ _ _ _ _ _ _)
      | (with_reducible exact LeO.refl _)
      | (with_reducible exact LeO.none _)
      | (with_reducible refine LeO.ite ?_ ?_)
      | (with_reducible refine LeO.bind ?_ (fun _ => ?_))
      | exact ih0 _ _ _ _ _ _ _ _
      | exact ih1 _ _ _ _ _ _ _ _ _ _
      | exact ih2 _ _ _ _ _ _ _ _ _ _
      | exact ih3 _ _ _ _ _ _ _ _ _ _ _
      | exact ih4 _ _ _ _ _ _ _ _ _ _ _
      | exact ih5 _ _ _ _ _ _ _ _ _ _ _
      | exact ih6 _ _ _ _ _ _ _ _ _ _ _
      | exact ih7 _ _ _ _ _ _ _ _ _ _ _
      | exact LeO.none _
      | refine LeO.ite ?_ ?_
      | refine LeO.bind ?_ (fun _ => ?_)
set_option maxHeartbeats 8000000 in
set_option maxRecDepth 100000 in
theorem haymowref03_instr.calls (k : Nat) (A0 : Option Addr) (c0 : Nat) (l0 : List (S50)) (a1 : Int) (a2_0 : Int) (a2_1 : Int) (a2_2 : Int) (a2_3 : Int) (a2_4 : Int) (r : Int) (w : World) (hr0 : Kd.C k50 w A0 l0.length l0) (hc0 : l0.length ≤ c0) (h : haymowref03_instr.f k l0 a1 a2_0 a2_1 a2_2 a2_3 a2_4 = some r) :
    Calls Try.prog 19 #[.slice A0 l0.length c0, .int .i64 a1, .agg #[.int .i64 a2_0, .int .i64 a2_1, .int .i64 a2_2, .int .i64 a2_3, .int .i64 a2_4]] w fun e w' => e = .returned (.int .i64 r) ∧ Below w.heap.size w w' := by
  have hu58 := Try.underlying58
  have HR0 := Aside0.mk hr0
  have HC0 := Aside0.mk hc0
  clear hr0 hc0
  have HB := Aside0.mk (Below.refl w.heap.size w)
  have H : (if a2_0 < 1 then (haymowref03_instr.j0 k l0 a1 true a2_0 a2_1 a2_2 a2_3 a2_4) else (haymowref03_instr.j0 k l0 a1 (decide (a2_0 > 17)) a2_0 a2_1 a2_2 a2_3 a2_4)) = some r := h
  clear h
  have HC4 := Aside0.mk H
  clear H
  go_enter Try.func19, Try.ntmps19
  go_upto_region 1 with (first | ((with_reducible refine gate_dst (N := 5) rfl ?_); (try (refine gate_guard (by rfl) ?_; dsimp only)); refine box_event ?hg (N := 5) ?hd (cs := #[.int .i64 a2_0, .int .i64 a2_1, .int .i64 a2_2, .int .i64 a2_3, .int .i64 a2_4]) (t := 58) ?hr ?_; (case hd => rfl); (case hg => rfl); (case hr => first | (go_simp; done) | (go_simp; rfl)); intro gb129 hg w5 hbox hb; have n0_ := Aside0.mk (below_step (by repeat (first | (with_reducible first | exact HB.out | apply below_alloc | apply pw_below_drewN | apply below_drew1) | exact HB.out)) hb); have n1_ := Aside0.mk (hbox); have n2_ := Aside0.mk ((by rw [hg]; exact (below_size (by repeat (first | (with_reducible first | exact HB.out | apply below_alloc | apply pw_below_drewN | apply below_drew1) | exact HB.out))) : w.heap.size ≤ gb129)); have n3_ := Aside0.mk ((by rw [hg]; exact (below_size (by repeat (first | (with_reducible first | exact HB.out | apply below_alloc | apply pw_below_drewN | apply below_drew1) | exact HB.out))) : w.heap.size ≤ gb129)); clear HB; have HB := n0_; have BK129 := n1_; have GW129 := n2_; have GE129 := n3_; clear n0_ n1_ n2_ n3_; clear hb hbox hg))
  repeat (go_quiet (first | ((with_reducible refine gate_dst (N := 5) rfl ?_); (try (refine gate_guard (by rfl) ?_; dsimp only)); refine box_event ?hg (N := 5) ?hd (cs := #[.int .i64 a2_0, .int .i64 a2_1, .int .i64 a2_2, .int .i64 a2_3, .int .i64 a2_4]) (t := 58) ?hr ?_; (case hd => rfl); (case hg => rfl); (case hr => first | (go_simp; done) | (go_simp; rfl)); intro gb129 hg w5 hbox hb; have n0_ := Aside0.mk (below_step (by repeat (first | (with_reducible first | exact HB.out | apply below_alloc | apply pw_below_drewN | apply below_drew1) | exact HB.out)) hb); have n1_ := Aside0.mk (hbox); have n2_ := Aside0.mk ((by rw [hg]; exact (below_size (by repeat (first | (with_reducible first | exact HB.out | apply below_alloc | apply pw_below_drewN | apply below_drew1) | exact HB.out))) : w.heap.size ≤ gb129)); have n3_ := Aside0.mk ((by rw [hg]; exact (below_size (by repeat (first | (with_reducible first | exact HB.out | apply below_alloc | apply pw_below_drewN | apply below_drew1) | exact HB.out))) : w.heap.size ≤ gb129)); clear HB; have HB := n0_; have BK129 := n1_; have GW129 := n2_; have GE129 := n3_; clear n0_ n1_ n2_ n3_; clear hb hbox hg)); go_upto_region 1 with (first | ((with_reducible refine gate_dst (N := 5) rfl ?_); (try (refine gate_guard (by rfl) ?_; dsimp only)); refine box_event ?hg (N := 5) ?hd (cs := #[.int .i64 a2_0, .int .i64 a2_1, .int .i64 a2_2, .int .i64 a2_3, .int .i64 a2_4]) (t := 58) ?hr ?_; (case hd => rfl); (case hg => rfl); (case hr => first | (go_simp; done) | (go_simp; rfl)); intro gb129 hg w5 hbox hb; have n0_ := Aside0.mk (below_step (by repeat (first | (with_reducible first | exact HB.out | apply below_alloc | apply pw_below_drewN | apply below_drew1) | exact HB.out)) hb); have n1_ := Aside0.mk (hbox); have n2_ := Aside0.mk ((by rw [hg]; exact (below_size (by repeat (first | (with_reducible first | exact HB.out | apply below_alloc | apply pw_below_drewN | apply below_drew1) | exact HB.out))) : w.heap.size ≤ gb129)); have n3_ := Aside0.mk ((by rw [hg]; exact (below_size (by repeat (first | (with_reducible first | exact HB.out | apply below_alloc | apply pw_below_drewN | apply below_drew1) | exact HB.out))) : w.heap.size ≤ gb129)); clear HB; have HB := n0_; have BK129 := n1_; have GW129 := n2_; have GE129 := n3_; clear n0_ n1_ n2_ n3_; clear hb hbox hg)))
  (try simp only [Act.put, List.setIfInBounds_toArray, List.set_cons_zero, List.set_cons_succ])
  go_cut [18] (fun v18 wc => ∃ (kq : Nat) (x18_3 : Bool), v18 = .bool x18_3 ∧ Aside0 (haymowref03_instr.j0 kq l0 a1 x18_3 a2_0 a2_1 a2_2 a2_3 a2_4 = some r) ∧ Aside0 (kq ≤ k) ∧ Aside0 (wc.heap[gb129]? = some (.cells #[.int .i64 a2_0, .int .i64 a2_1, .int .i64 a2_2, .int .i64 a2_3, .int .i64 a2_4] 58 (0, 0))) ∧ Aside0 (Below w.heap.size w wc))
  case first =>
    have H := HC4.out
    clear HC4
    by_cases c6 : a2_0 < 1
    · rw [if_pos c6] at H
      have c6b0 : decide (a2_0 < 1) = true := decide_eq_true c6
      clear c6
      (first | rw [c6b0] | (simp only [i64_w, i32_w]; rw [c6b0]) | skip)
      as_aux_lemma =>
        have H' := Aside0.mk H
        clear H
        have hcz7_0 : w5.cell? ⟨gb129, 0, none⟩ = some (.int .i64 a2_0) := (blk_cell BK129.out 0).trans rfl
        have hcz7_1 : w5.cell? ⟨gb129, 1, none⟩ = some (.int .i64 a2_1) := (blk_cell BK129.out 1).trans rfl
        have hcz7_2 : w5.cell? ⟨gb129, 2, none⟩ = some (.int .i64 a2_2) := (blk_cell BK129.out 2).trans rfl
        have hcz7_3 : w5.cell? ⟨gb129, 3, none⟩ = some (.int .i64 a2_3) := (blk_cell BK129.out 3).trans rfl
        have hcz7_4 : w5.cell? ⟨gb129, 4, none⟩ = some (.int .i64 a2_4) := (blk_cell BK129.out 4).trans rfl
        have hfz7_0 := blk_frozen BK129.out 0
        have hfz7_1 := blk_frozen BK129.out 1
        have hfz7_2 := blk_frozen BK129.out 2
        have hfz7_3 := blk_frozen BK129.out 3
        have hfz7_4 := blk_frozen BK129.out 4
        go_wp2
        repeat (go_quiet (fail); try go_wp2)
        go_meet
        case rel => exact ⟨_, (true), (by first | rfl | (simp; done) | (simp [*]; done)), H', ⟨by first | omega | exact Nat.le_refl _⟩, ⟨by (with_reducible repeat (first | refine blk_drewN ?_ _ | refine blk_drew ?_ | refine blk_alloc ?_ _)); exact BK129.out⟩, ⟨by repeat (first | (with_reducible first | exact HB.out | apply below_alloc | apply pw_below_drewN | apply below_drew1 | refine below_set ?_ GE129.out) | exact HB.out)⟩⟩
    · rw [if_neg c6] at H
      have c6b0 : decide (a2_0 < 1) = false := decide_eq_false c6
      clear c6
      (first | rw [c6b0] | (simp only [i64_w, i32_w]; rw [c6b0]) | skip)
      as_aux_lemma =>
        have H' := Aside0.mk H
        clear H
        have hcz8_0 : w5.cell? ⟨gb129, 0, none⟩ = some (.int .i64 a2_0) := (blk_cell BK129.out 0).trans rfl
        have hcz8_1 : w5.cell? ⟨gb129, 1, none⟩ = some (.int .i64 a2_1) := (blk_cell BK129.out 1).trans rfl
        have hcz8_2 : w5.cell? ⟨gb129, 2, none⟩ = some (.int .i64 a2_2) := (blk_cell BK129.out 2).trans rfl
        have hcz8_3 : w5.cell? ⟨gb129, 3, none⟩ = some (.int .i64 a2_3) := (blk_cell BK129.out 3).trans rfl
        have hcz8_4 : w5.cell? ⟨gb129, 4, none⟩ = some (.int .i64 a2_4) := (blk_cell BK129.out 4).trans rfl
        have hfz8_0 := blk_frozen BK129.out 0
        have hfz8_1 := blk_frozen BK129.out 1
        have hfz8_2 := blk_frozen BK129.out 2
        have hfz8_3 := blk_frozen BK129.out 3
        have hfz8_4 := blk_frozen BK129.out 4
        go_wp2
        repeat (go_quiet (fail); try go_wp2)
        go_meet
        case rel => exact ⟨_, (decide (a2_0 > 17)), (by first | rfl | (simp; done) | (simp [*]; done)), H', ⟨by first | omega | exact Nat.le_refl _⟩, ⟨by (with_reducible repeat (first | refine blk_drewN ?_ _ | refine blk_drew ?_ | refine blk_alloc ?_ _)); exact BK129.out⟩, ⟨by repeat (first | (with_reducible first | exact HB.out | apply below_alloc | apply pw_below_drewN | apply below_drew1 | refine below_set ?_ GE129.out) | exact HB.out)⟩⟩
  case rest =>
    clear HC4
    try clear c1
    try clear p2
    try clear c6
    try clear c6b0
    try clear hcz7_0
    try clear hcz7_1
    try clear hcz7_2
    try clear hcz7_3
    try clear hcz7_4
    try clear hcz8_0
    try clear hcz8_1
    try clear hcz8_2
    try clear hcz8_3
    try clear hcz8_4
    try clear hfz7_0
    try clear hfz7_1
    try clear hfz7_2
    try clear hfz7_3
    try clear hfz7_4
    try clear hfz8_0
    try clear hfz8_1
    try clear hfz8_2
    try clear hfz8_3
    try clear hfz8_4
    obtain ⟨kq, x18_3, rfl, HA, HJ3, BK129, HB⟩ := hcut
    cases kq with
    | zero => exact absurd HA.out (by simp [haymowref03_instr.j0])
    | succ kj3 =>
      have H := HA.out
      clear HA
      simp only [haymowref03_instr.j0] at H
      by_cases c9 : x18_3 = true
      · subst c9
        have H1 : (some 4) = some r := by rw [if_pos rfl] at H; exact H
        clear H
        have H := H1
        clear H1
        as_aux_lemma =>
          obtain rfl := Option.some.inj H
          go_wp2
          repeat (go_quiet (fail); try go_wp2)
          go_ret
          exact ⟨by first | rfl | (simp [errW_none, errW_some] <;> rfl) | (simp [*, errW_none, errW_some] <;> rfl), by repeat (first | (with_reducible first | exact HB.out | apply below_alloc | apply pw_below_drewN | apply below_drew1 | refine below_set ?_ GE129.out) | exact HB.out)⟩
      · replace c9 := Bool.eq_false_iff.mpr c9
        subst c9
        have H1 : ((haymowref03_Uses.f a2_0).bind fun t130 => (haymowref03_instr.l0 kj3 l0 a1 t130 (([a2_1, a2_2, a2_3, a2_4] : List Int)) 0 a2_0 a2_1 a2_2 a2_3 a2_4)) = some r := by rw [if_neg (show ¬ (false = true) by decide)] at H; exact H
        clear H
        have H := H1
        clear H1
        replace H := Option.bind_eq_some_iff.mp H
        obtain ⟨t130, A100, H⟩ := H
        replace H : (haymowref03_instr.l0 kj3 l0 a1 t130 (([a2_1, a2_2, a2_3, a2_4] : List Int)) 0 a2_0 a2_1 a2_2 a2_3 a2_4) = some r := H
        have A10 := Aside0.mk A100
        clear A100
        obtain ⟨y131, hy131⟩ : ∃ y_ : List Int, y_ = (([a2_1, a2_2, a2_3, a2_4] : List Int)) := ⟨_, rfl⟩
        replace H : (haymowref03_instr.l0 kj3 l0 a1 t130 y131 0 a2_0 a2_1 a2_2 a2_3 a2_4) = some r := by first | (rw [hy131]; with_reducible exact H) | (have H2_ := (Option.bind_some _ _).symm.trans H; rw [hy131]; with_reducible exact H2_) | (have H2_ := (Option.bind_some _ _).symm.trans H; with_reducible exact H2_) | with_reducible exact H | (rw [hy131]; exact H) | exact H
        have Ny131 := Aside0.mk hy131
        clear hy131
        have H' := Aside0.mk H
        clear H
        have hcz11_0 : wc.cell? ⟨gb129, 0, none⟩ = some (.int .i64 a2_0) := (blk_cell BK129.out 0).trans rfl
        have hcz11_1 : wc.cell? ⟨gb129, 1, none⟩ = some (.int .i64 a2_1) := (blk_cell BK129.out 1).trans rfl
        have hcz11_2 : wc.cell? ⟨gb129, 2, none⟩ = some (.int .i64 a2_2) := (blk_cell BK129.out 2).trans rfl
        have hcz11_3 : wc.cell? ⟨gb129, 3, none⟩ = some (.int .i64 a2_3) := (blk_cell BK129.out 3).trans rfl
        have hcz11_4 : wc.cell? ⟨gb129, 4, none⟩ = some (.int .i64 a2_4) := (blk_cell BK129.out 4).trans rfl
        have hfz11_0 := blk_frozen BK129.out 0
        have hfz11_1 := blk_frozen BK129.out 1
        have hfz11_2 := blk_frozen BK129.out 2
        have hfz11_3 := blk_frozen BK129.out 3
        have hfz11_4 := blk_frozen BK129.out 4
        go_wp2_with (first | (go_at_call 29; (with_reducible refine (haymowref03_Uses.calls a2_0 t130 _ A10.out).mono ?_); rintro e w12 ⟨rfl, hb⟩; have n0_ := Aside0.mk (blk_below (g := gb129) (o := .cells #[.int .i64 a2_0, .int .i64 a2_1, .int .i64 a2_2, .int .i64 a2_3, .int .i64 a2_4] 58 (0, 0)) (by (with_reducible repeat (first | refine blk_drewN ?_ _ | refine blk_drew ?_ | refine blk_alloc ?_ _)); exact BK129.out) hb); have n1_ := Aside0.mk (below_step (by repeat (first | (with_reducible first | exact HB.out | apply below_alloc | apply pw_below_drewN | apply below_drew1 | refine below_set ?_ GE129.out) | exact HB.out)) hb); clear BK129; clear HB; have BK129 := n0_; have HB := n1_; clear n0_ n1_; (try clear hb); (try clear hb2); (try clear hk); (try clear hi); have hcz13_0 : w12.cell? ⟨gb129, 0, none⟩ = some (.int .i64 a2_0) := (blk_cell BK129.out 0).trans rfl; have hcz13_1 : w12.cell? ⟨gb129, 1, none⟩ = some (.int .i64 a2_1) := (blk_cell BK129.out 1).trans rfl; have hcz13_2 : w12.cell? ⟨gb129, 2, none⟩ = some (.int .i64 a2_2) := (blk_cell BK129.out 2).trans rfl; have hcz13_3 : w12.cell? ⟨gb129, 3, none⟩ = some (.int .i64 a2_3) := (blk_cell BK129.out 3).trans rfl; have hcz13_4 : w12.cell? ⟨gb129, 4, none⟩ = some (.int .i64 a2_4) := (blk_cell BK129.out 4).trans rfl; have hfz13_0 := blk_frozen BK129.out 0; have hfz13_1 := blk_frozen BK129.out 1; have hfz13_2 := blk_frozen BK129.out 2; have hfz13_3 := blk_frozen BK129.out 3; have hfz13_4 := blk_frozen BK129.out 4) | ((with_reducible refine gate_dst (N := 30) rfl ?_); (try (refine gate_guard (by rfl) ?_; dsimp only)); refine Kd.R_lit (Kd.int .i64) _ 3 ?hg (N := 30) ?hd (xs := ([a2_1, a2_2, a2_3, a2_4] : List Int)) (inner := [.int .i64 a2_1, .int .i64 a2_2, .int .i64 a2_3, .int .i64 a2_4]) (ok := fun _ => True) (okp := fun _ => True) ?hr ?hp (fun _ hk => hk) trivial (Below.refl _ _) (Nat.le_refl _) (by simp) ?_; (case hd => rfl); (case hg => rfl); (case hr => first | (go_simp; done) | (go_simp; rfl)); (case hp => exact (Reps.one (show Kd.M (Kd.int .i64) _ _ _ a2_1 [.int .i64 a2_1] from rfl) (Reps.one (show Kd.M (Kd.int .i64) _ _ _ a2_2 [.int .i64 a2_2] from rfl) (Reps.one (show Kd.M (Kd.int .i64) _ _ _ a2_3 [.int .i64 a2_3] from rfl) (Reps.one (show Kd.M (Kd.int .i64) _ _ _ a2_4 [.int .i64 a2_4] from rfl) (Reps.none _ _)))))); intro v132 w14 ho15 hb hg_ hnew_; clear hg_ hnew_; (first | rw [← Ny131.out] at ho15 | (simp only [Int.reduceToNat] at ho15; rw [← Ny131.out] at ho15)); have n0_ := Aside0.mk (Kd.R_lower ho15 (below_size (by repeat (first | (with_reducible first | exact HB.out | apply below_alloc | apply pw_below_drewN | apply below_drew1 | refine below_set ?_ GE129.out) | exact HB.out)))); have n1_ := Aside0.mk (blk_below (g := gb129) (o := .cells #[.int .i64 a2_0, .int .i64 a2_1, .int .i64 a2_2, .int .i64 a2_3, .int .i64 a2_4] 58 (0, 0)) (by (with_reducible repeat (first | refine blk_drewN ?_ _ | refine blk_drew ?_ | refine blk_alloc ?_ _)); exact BK129.out) hb); have n2_ := Aside0.mk (below_step (by repeat (first | (with_reducible first | exact HB.out | apply below_alloc | apply pw_below_drewN | apply below_drew1 | refine below_set ?_ GE129.out) | exact HB.out)) hb); clear BK129; clear HB; have HO133 := n0_; have BK129 := n1_; have HB := n2_; clear n0_ n1_ n2_; clear hb ho15))
        repeat (go_quiet (first | (go_at_call 29; (with_reducible refine (haymowref03_Uses.calls a2_0 t130 _ A10.out).mono ?_); rintro e w12 ⟨rfl, hb⟩; have n0_ := Aside0.mk (blk_below (g := gb129) (o := .cells #[.int .i64 a2_0, .int .i64 a2_1, .int .i64 a2_2, .int .i64 a2_3, .int .i64 a2_4] 58 (0, 0)) (by (with_reducible repeat (first | refine blk_drewN ?_ _ | refine blk_drew ?_ | refine blk_alloc ?_ _)); exact BK129.out) hb); have n1_ := Aside0.mk (below_step (by repeat (first | (with_reducible first | exact HB.out | apply below_alloc | apply pw_below_drewN | apply below_drew1 | refine below_set ?_ GE129.out) | exact HB.out)) hb); clear BK129; clear HB; have BK129 := n0_; have HB := n1_; clear n0_ n1_; (try clear hb); (try clear hb2); (try clear hk); (try clear hi); have hcz13_0 : w12.cell? ⟨gb129, 0, none⟩ = some (.int .i64 a2_0) := (blk_cell BK129.out 0).trans rfl; have hcz13_1 : w12.cell? ⟨gb129, 1, none⟩ = some (.int .i64 a2_1) := (blk_cell BK129.out 1).trans rfl; have hcz13_2 : w12.cell? ⟨gb129, 2, none⟩ = some (.int .i64 a2_2) := (blk_cell BK129.out 2).trans rfl; have hcz13_3 : w12.cell? ⟨gb129, 3, none⟩ = some (.int .i64 a2_3) := (blk_cell BK129.out 3).trans rfl; have hcz13_4 : w12.cell? ⟨gb129, 4, none⟩ = some (.int .i64 a2_4) := (blk_cell BK129.out 4).trans rfl; have hfz13_0 := blk_frozen BK129.out 0; have hfz13_1 := blk_frozen BK129.out 1; have hfz13_2 := blk_frozen BK129.out 2; have hfz13_3 := blk_frozen BK129.out 3; have hfz13_4 := blk_frozen BK129.out 4) | ((with_reducible refine gate_dst (N := 30) rfl ?_); (try (refine gate_guard (by rfl) ?_; dsimp only)); refine Kd.R_lit (Kd.int .i64) _ 3 ?hg (N := 30) ?hd (xs := ([a2_1, a2_2, a2_3, a2_4] : List Int)) (inner := [.int .i64 a2_1, .int .i64 a2_2, .int .i64 a2_3, .int .i64 a2_4]) (ok := fun _ => True) (okp := fun _ => True) ?hr ?hp (fun _ hk => hk) trivial (Below.refl _ _) (Nat.le_refl _) (by simp) ?_; (case hd => rfl); (case hg => rfl); (case hr => first | (go_simp; done) | (go_simp; rfl)); (case hp => exact (Reps.one (show Kd.M (Kd.int .i64) _ _ _ a2_1 [.int .i64 a2_1] from rfl) (Reps.one (show Kd.M (Kd.int .i64) _ _ _ a2_2 [.int .i64 a2_2] from rfl) (Reps.one (show Kd.M (Kd.int .i64) _ _ _ a2_3 [.int .i64 a2_3] from rfl) (Reps.one (show Kd.M (Kd.int .i64) _ _ _ a2_4 [.int .i64 a2_4] from rfl) (Reps.none _ _)))))); intro v132 w14 ho15 hb hg_ hnew_; clear hg_ hnew_; (first | rw [← Ny131.out] at ho15 | (simp only [Int.reduceToNat] at ho15; rw [← Ny131.out] at ho15)); have n0_ := Aside0.mk (Kd.R_lower ho15 (below_size (by repeat (first | (with_reducible first | exact HB.out | apply below_alloc | apply pw_below_drewN | apply below_drew1 | refine below_set ?_ GE129.out) | exact HB.out)))); have n1_ := Aside0.mk (blk_below (g := gb129) (o := .cells #[.int .i64 a2_0, .int .i64 a2_1, .int .i64 a2_2, .int .i64 a2_3, .int .i64 a2_4] 58 (0, 0)) (by (with_reducible repeat (first | refine blk_drewN ?_ _ | refine blk_drew ?_ | refine blk_alloc ?_ _)); exact BK129.out) hb); have n2_ := Aside0.mk (below_step (by repeat (first | (with_reducible first | exact HB.out | apply below_alloc | apply pw_below_drewN | apply below_drew1 | refine below_set ?_ GE129.out) | exact HB.out)) hb); clear BK129; clear HB; have HO133 := n0_; have BK129 := n1_; have HB := n2_; clear n0_ n1_ n2_; clear hb ho15)); try go_wp2_with (first | (go_at_call 29; (with_reducible refine (haymowref03_Uses.calls a2_0 t130 _ A10.out).mono ?_); rintro e w12 ⟨rfl, hb⟩; have n0_ := Aside0.mk (blk_below (g := gb129) (o := .cells #[.int .i64 a2_0, .int .i64 a2_1, .int .i64 a2_2, .int .i64 a2_3, .int .i64 a2_4] 58 (0, 0)) (by (with_reducible repeat (first | refine blk_drewN ?_ _ | refine blk_drew ?_ | refine blk_alloc ?_ _)); exact BK129.out) hb); have n1_ := Aside0.mk (below_step (by repeat (first | (with_reducible first | exact HB.out | apply below_alloc | apply pw_below_drewN | apply below_drew1 | refine below_set ?_ GE129.out) | exact HB.out)) hb); clear BK129; clear HB; have BK129 := n0_; have HB := n1_; clear n0_ n1_; (try clear hb); (try clear hb2); (try clear hk); (try clear hi); have hcz13_0 : w12.cell? ⟨gb129, 0, none⟩ = some (.int .i64 a2_0) := (blk_cell BK129.out 0).trans rfl; have hcz13_1 : w12.cell? ⟨gb129, 1, none⟩ = some (.int .i64 a2_1) := (blk_cell BK129.out 1).trans rfl; have hcz13_2 : w12.cell? ⟨gb129, 2, none⟩ = some (.int .i64 a2_2) := (blk_cell BK129.out 2).trans rfl; have hcz13_3 : w12.cell? ⟨gb129, 3, none⟩ = some (.int .i64 a2_3) := (blk_cell BK129.out 3).trans rfl; have hcz13_4 : w12.cell? ⟨gb129, 4, none⟩ = some (.int .i64 a2_4) := (blk_cell BK129.out 4).trans rfl; have hfz13_0 := blk_frozen BK129.out 0; have hfz13_1 := blk_frozen BK129.out 1; have hfz13_2 := blk_frozen BK129.out 2; have hfz13_3 := blk_frozen BK129.out 3; have hfz13_4 := blk_frozen BK129.out 4) | ((with_reducible refine gate_dst (N := 30) rfl ?_); (try (refine gate_guard (by rfl) ?_; dsimp only)); refine Kd.R_lit (Kd.int .i64) _ 3 ?hg (N := 30) ?hd (xs := ([a2_1, a2_2, a2_3, a2_4] : List Int)) (inner := [.int .i64 a2_1, .int .i64 a2_2, .int .i64 a2_3, .int .i64 a2_4]) (ok := fun _ => True) (okp := fun _ => True) ?hr ?hp (fun _ hk => hk) trivial (Below.refl _ _) (Nat.le_refl _) (by simp) ?_; (case hd => rfl); (case hg => rfl); (case hr => first | (go_simp; done) | (go_simp; rfl)); (case hp => exact (Reps.one (show Kd.M (Kd.int .i64) _ _ _ a2_1 [.int .i64 a2_1] from rfl) (Reps.one (show Kd.M (Kd.int .i64) _ _ _ a2_2 [.int .i64 a2_2] from rfl) (Reps.one (show Kd.M (Kd.int .i64) _ _ _ a2_3 [.int .i64 a2_3] from rfl) (Reps.one (show Kd.M (Kd.int .i64) _ _ _ a2_4 [.int .i64 a2_4] from rfl) (Reps.none _ _)))))); intro v132 w14 ho15 hb hg_ hnew_; clear hg_ hnew_; (first | rw [← Ny131.out] at ho15 | (simp only [Int.reduceToNat] at ho15; rw [← Ny131.out] at ho15)); have n0_ := Aside0.mk (Kd.R_lower ho15 (below_size (by repeat (first | (with_reducible first | exact HB.out | apply below_alloc | apply pw_below_drewN | apply below_drew1 | refine below_set ?_ GE129.out) | exact HB.out)))); have n1_ := Aside0.mk (blk_below (g := gb129) (o := .cells #[.int .i64 a2_0, .int .i64 a2_1, .int .i64 a2_2, .int .i64 a2_3, .int .i64 a2_4] 58 (0, 0)) (by (with_reducible repeat (first | refine blk_drewN ?_ _ | refine blk_drew ?_ | refine blk_alloc ?_ _)); exact BK129.out) hb); have n2_ := Aside0.mk (below_step (by repeat (first | (with_reducible first | exact HB.out | apply below_alloc | apply pw_below_drewN | apply below_drew1 | refine below_set ?_ GE129.out) | exact HB.out)) hb); clear BK129; clear HB; have HO133 := n0_; have BK129 := n1_; have HB := n2_; clear n0_ n1_ n2_; clear hb ho15)))
        go_loopg [9] kj3 (fun kq v9 w' => ∃ (x9_2 : Int), v9 = .int .i64 x9_2 ∧ Aside0 (haymowref03_instr.l0 kq l0 a1 t130 y131 x9_2 a2_0 a2_1 a2_2 a2_3 a2_4 = some r) ∧ Aside0 (kq ≤ kj3) ∧ Aside0 (Kd.R (Kd.int .i64) 3 w' w.heap.size (fun _ => True) v132 y131) ∧ Aside0 (w'.heap[gb129]? = some (.cells #[.int .i64 a2_0, .int .i64 a2_1, .int .i64 a2_2, .int .i64 a2_3, .int .i64 a2_4] 58 (0, 0))) ∧ Aside0 (Below w.heap.size w w'))
        case atStart => exact ⟨(0), (by first | rfl | (simp; done) | (simp [*]; done)), H', ⟨Nat.le_refl _⟩, ⟨by (with_reducible repeat (first | apply Kd.R_alloc | apply Kd.R_drewN | apply Kd.R_drew)); exact HO133.out⟩, ⟨by (with_reducible repeat (first | refine blk_drewN ?_ _ | refine blk_drew ?_ | refine blk_alloc ?_ _)); exact BK129.out⟩, ⟨by repeat (first | (with_reducible first | exact HB.out | apply below_alloc | apply pw_below_drewN | apply below_drew1 | refine below_set ?_ GE129.out) | exact HB.out)⟩⟩
        case round =>
          clear H'
          try clear c1
          try clear p2
          try clear c6
          try clear c6b0
          try clear c9
          try clear hcz11_0
          try clear hcz11_1
          try clear hcz11_2
          try clear hcz11_3
          try clear hcz11_4
          try clear hcz13_0
          try clear hcz13_1
          try clear hcz13_2
          try clear hcz13_3
          try clear hcz13_4
          try clear hcz7_0
          try clear hcz7_1
          try clear hcz7_2
          try clear hcz7_3
          try clear hcz7_4
          try clear hcz8_0
          try clear hcz8_1
          try clear hcz8_2
          try clear hcz8_3
          try clear hcz8_4
          try clear hfz11_0
          try clear hfz11_1
          try clear hfz11_2
          try clear hfz11_3
          try clear hfz11_4
          try clear hfz13_0
          try clear hfz13_1
          try clear hfz13_2
          try clear hfz13_3
          try clear hfz13_4
          try clear hfz7_0
          try clear hfz7_1
          try clear hfz7_2
          try clear hfz7_3
          try clear hfz7_4
          try clear hfz8_0
          try clear hfz8_1
          try clear hfz8_2
          try clear hfz8_3
          try clear hfz8_4
          try clear p2
          obtain ⟨x9_2, rfl, HA, HK2, HO_8, BK129, HB⟩ := hrel
          cases gk with
          | zero => exact absurd HA.out (by simp [haymowref03_instr.l0])
          | succ k2 =>
            have H := HA.out
            clear HA
            simp only [haymowref03_instr.l0] at H
            by_cases c16 : x9_2 < 4
            · rw [if_pos c16] at H
              have c16b0 : decide (x9_2 < 4) = true := decide_eq_true c16
              clear c16
              by_cases c17 : 0 ≤ x9_2
              · rw [if_pos c17] at H
                have c17b0 : decide (0 ≤ x9_2) = true := decide_eq_true c17
                clear c17
                by_cases c18 : x9_2 < (t130.size : Int)
                · rw [if_pos c18] at H
                  have c18b0 : decide (x9_2 < (t130.size : Int)) = true := decide_eq_true c18
                  clear c18
                  by_cases c20 : (bt t130 x9_2) = 48
                  · rw [if_pos c20] at H
                    have c20b0 : ((bt t130 x9_2) == 48) = true := beq_iff_eq.mpr c20
                    have c20b1 : ((bt t130 x9_2) != 48) = false := bne_eq_false_iff_eq.mpr c20
                    clear c20
                    by_cases c21 : x9_2 < (y131.length : Int)
                    · rw [if_pos c21] at H
                      have c21b0 : decide (x9_2 < (y131.length : Int)) = true := decide_eq_true c21
                      clear c21
                      by_cases c22 : (rd y131 x9_2) = 0
                      · rw [if_pos c22] at H
                        have c22b0 : ((rd y131 x9_2) == 0) = true := beq_iff_eq.mpr c22
                        have c22b1 : ((rd y131 x9_2) != 0) = false := bne_eq_false_iff_eq.mpr c22
                        clear c22
                        as_aux_lemma =>
                          have H' := Aside0.mk H
                          clear H
                          have p19 : 0 ≤ (x9_2 : Int) := of_decide_eq_true (by first | (with_reducible assumption) | assumption)
                          have q19 : x9_2 < (t130.size : Int) := of_decide_eq_true (by first | (with_reducible assumption) | assumption)
                          have hx19 := bt_at t130 x9_2
                          replace p19 := eq_true p19
                          replace q19 := eq_true q19
                          obtain ⟨Ao23, co23, eo23⟩ := Kd.R_slice HO_8.out
                          subst eo23
                          have p134 : 0 ≤ (x9_2 : Int) := of_decide_eq_true (by first | (with_reducible assumption) | assumption)
                          have q134 : x9_2 < (y131.length : Int) := of_decide_eq_true (by first | (with_reducible assumption) | assumption)
                          obtain ⟨ad134, e134, hx134_0⟩ := Kd.at_int (Kd.R_reads' HO_8.out).2.2 x9_2 p134 q134
                          cases e134
                          replace p134 := eq_true p134
                          replace q134 := eq_true q134
                          go_wp2
                          repeat (go_quiet (fail); try go_wp2)
                          go_roundg k2
                          case measure => have := HJ3.out; have := HK2.out; omega
                          case rel => exact ⟨(wrap64 (x9_2 + 1)), (by first | rfl | (simp; done) | (simp [*]; done)), H', ⟨by have := HJ3.out; have := HK2.out; omega⟩, ⟨by (with_reducible repeat (first | apply Kd.R_alloc | apply Kd.R_drewN | apply Kd.R_drew)); exact HO_8.out⟩, ⟨by (with_reducible repeat (first | refine blk_drewN ?_ _ | refine blk_drew ?_ | refine blk_alloc ?_ _)); exact BK129.out⟩, ⟨by repeat (first | (with_reducible first | exact HB.out | apply below_alloc | apply pw_below_drewN | apply below_drew1 | refine below_set ?_ GE129.out) | exact HB.out)⟩⟩
                      · rw [if_neg c22] at H
                        have c22b0 : ((rd y131 x9_2) == 0) = false := beq_eq_false_iff_ne.mpr c22
                        have c22b1 : ((rd y131 x9_2) != 0) = true := bne_iff_ne.mpr c22
                        as_aux_lemma =>
                          obtain rfl := Option.some.inj H
                          have p19 : 0 ≤ (x9_2 : Int) := of_decide_eq_true (by first | (with_reducible assumption) | assumption)
                          have q19 : x9_2 < (t130.size : Int) := of_decide_eq_true (by first | (with_reducible assumption) | assumption)
                          have hx19 := bt_at t130 x9_2
                          replace p19 := eq_true p19
                          replace q19 := eq_true q19
                          obtain ⟨Ao24, co24, eo24⟩ := Kd.R_slice HO_8.out
                          subst eo24
                          have p134 : 0 ≤ (x9_2 : Int) := of_decide_eq_true (by first | (with_reducible assumption) | assumption)
                          have q134 : x9_2 < (y131.length : Int) := of_decide_eq_true (by first | (with_reducible assumption) | assumption)
                          obtain ⟨ad134, e134, hx134_0⟩ := Kd.at_int (Kd.R_reads' HO_8.out).2.2 x9_2 p134 q134
                          cases e134
                          replace p134 := eq_true p134
                          replace q134 := eq_true q134
                          go_wp2
                          repeat (go_quiet (fail); try go_wp2)
                          go_ret
                          exact ⟨by first | rfl | (simp [errW_none, errW_some] <;> rfl) | (simp [*, errW_none, errW_some] <;> rfl), by repeat (first | (with_reducible first | exact HB.out | apply below_alloc | apply pw_below_drewN | apply below_drew1 | refine below_set ?_ GE129.out) | exact HB.out)⟩
                    · rw [if_neg c21] at H
                      exact absurd H (by simp)
                  · rw [if_neg c20] at H
                    have c20b0 : ((bt t130 x9_2) == 48) = false := beq_eq_false_iff_ne.mpr c20
                    have c20b1 : ((bt t130 x9_2) != 48) = true := bne_iff_ne.mpr c20
                    as_aux_lemma =>
                      have H' := Aside0.mk H
                      clear H
                      have p19 : 0 ≤ (x9_2 : Int) := of_decide_eq_true (by first | (with_reducible assumption) | assumption)
                      have q19 : x9_2 < (t130.size : Int) := of_decide_eq_true (by first | (with_reducible assumption) | assumption)
                      have hx19 := bt_at t130 x9_2
                      replace p19 := eq_true p19
                      replace q19 := eq_true q19
                      go_wp2
                      repeat (go_quiet (fail); try go_wp2)
                      go_roundg k2
                      case measure => have := HJ3.out; have := HK2.out; omega
                      case rel => exact ⟨(wrap64 (x9_2 + 1)), (by first | rfl | (simp; done) | (simp [*]; done)), H', ⟨by have := HJ3.out; have := HK2.out; omega⟩, ⟨by (with_reducible repeat (first | apply Kd.R_alloc | apply Kd.R_drewN | apply Kd.R_drew)); exact HO_8.out⟩, ⟨by (with_reducible repeat (first | refine blk_drewN ?_ _ | refine blk_drew ?_ | refine blk_alloc ?_ _)); exact BK129.out⟩, ⟨by repeat (first | (with_reducible first | exact HB.out | apply below_alloc | apply pw_below_drewN | apply below_drew1 | refine below_set ?_ GE129.out) | exact HB.out)⟩⟩
                · rw [if_neg c18] at H
                  exact absurd H (by simp)
              · rw [if_neg c17] at H
                exact absurd H (by simp)
            · rw [if_neg c16] at H
              have c16b0 : decide (x9_2 < 4) = false := decide_eq_false c16
              clear c16
              have H' := Aside0.mk H
              clear H
              go_wp2
              repeat (go_quiet (fail); try go_wp2)
              go_loopg [10] k2 (fun kq v10 w' => ∃ (x10_3 : Int), v10 = .int .i64 x10_3 ∧ Aside0 (haymowref03_instr.l1 kq l0 a1 t130 y131 x10_3 a2_0 a2_1 a2_2 a2_3 a2_4 = some r) ∧ Aside0 (kq ≤ k2) ∧ Aside0 (Kd.R (Kd.int .i64) 3 w' w.heap.size (fun _ => True) v132 y131) ∧ Aside0 (w'.heap[gb129]? = some (.cells #[.int .i64 a2_0, .int .i64 a2_1, .int .i64 a2_2, .int .i64 a2_3, .int .i64 a2_4] 58 (0, 0))) ∧ Aside0 (Below w.heap.size w w'))
              case atStart => exact ⟨(0), (by first | rfl | (simp; done) | (simp [*]; done)), H', ⟨Nat.le_refl _⟩, ⟨by (with_reducible repeat (first | apply Kd.R_alloc | apply Kd.R_drewN | apply Kd.R_drew)); exact HO_8.out⟩, ⟨by (with_reducible repeat (first | refine blk_drewN ?_ _ | refine blk_drew ?_ | refine blk_alloc ?_ _)); exact BK129.out⟩, ⟨by repeat (first | (with_reducible first | exact HB.out | apply below_alloc | apply pw_below_drewN | apply below_drew1 | refine below_set ?_ GE129.out) | exact HB.out)⟩⟩
              case round =>
                clear H'
                try clear c1
                try clear p1
                try clear q1
                try clear hx1
                try clear c2
                try clear p2
                try clear c6
                try clear c6b0
                try clear p6
                try clear c9
                try clear p13
                try clear q13
                try clear hx13
                try clear c16
                try clear c16b0
                try clear c17
                try clear c17b0
                try clear c18
                try clear c18b0
                try clear c19
                try clear p19
                try clear q19
                try clear hx19
                try clear c20
                try clear c20b0
                try clear c20b1
                try clear c21
                try clear c21b0
                try clear c22
                try clear c22b0
                try clear c22b1
                try clear hcz11_0
                try clear hcz11_1
                try clear hcz11_2
                try clear hcz11_3
                try clear hcz11_4
                try clear hcz13_0
                try clear hcz13_1
                try clear hcz13_2
                try clear hcz13_3
                try clear hcz13_4
                try clear hcz7_0
                try clear hcz7_1
                try clear hcz7_2
                try clear hcz7_3
                try clear hcz7_4
                try clear hcz8_0
                try clear hcz8_1
                try clear hcz8_2
                try clear hcz8_3
                try clear hcz8_4
                try clear hfz11_0
                try clear hfz11_1
                try clear hfz11_2
                try clear hfz11_3
                try clear hfz11_4
                try clear hfz13_0
                try clear hfz13_1
                try clear hfz13_2
                try clear hfz13_3
                try clear hfz13_4
                try clear hfz7_0
                try clear hfz7_1
                try clear hfz7_2
                try clear hfz7_3
                try clear hfz7_4
                try clear hfz8_0
                try clear hfz8_1
                try clear hfz8_2
                try clear hfz8_3
                try clear hfz8_4
                try clear hx134_0
                try clear p134
                try clear p19
                try clear p2
                try clear q134
                try clear q19
                obtain ⟨x10_3, rfl, HA, HK3, HO_8, BK129, HB⟩ := hrel
                cases gk with
                | zero => exact absurd HA.out (by simp [haymowref03_instr.l1])
                | succ k3 =>
                  have H := HA.out
                  clear HA
                  simp only [haymowref03_instr.l1] at H
                  by_cases c25 : x10_3 < 4
                  · rw [if_pos c25] at H
                    have c25b0 : decide (x10_3 < 4) = true := decide_eq_true c25
                    clear c25
                    have HC26 := Aside0.mk H
                    clear H
                    go_upto_region 13 with (fail)
                    repeat (go_quiet (fail); go_upto_region 13 with (fail))
                    go_cut [50] (fun v50 wc => ∃ (kq : Nat) (x50_25 : Bool), v50 = .bool x50_25 ∧ Aside0 (haymowref03_instr.j3 kq l0 a1 t130 y131 x10_3 x50_25 a2_0 a2_1 a2_2 a2_3 a2_4 = some r) ∧ Aside0 (kq ≤ k3) ∧ Aside0 (Kd.R (Kd.int .i64) 3 wc w.heap.size (fun _ => True) v132 y131) ∧ Aside0 (wc.heap[gb129]? = some (.cells #[.int .i64 a2_0, .int .i64 a2_1, .int .i64 a2_2, .int .i64 a2_3, .int .i64 a2_4] 58 (0, 0))) ∧ Aside0 (Below w.heap.size w wc))
                    case first =>
                      have H := HC26.out
                      clear HC26
                      by_cases c27 : 0 ≤ x10_3
                      · rw [if_pos c27] at H
                        have c27b0 : decide (0 ≤ x10_3) = true := decide_eq_true c27
                        clear c27
                        (first | rw [c27b0] | (simp only [i64_w, i32_w]; rw [c27b0]) | skip)
                        by_cases c28 : x10_3 < (t130.size : Int)
                        · rw [if_pos c28] at H
                          have c28b0 : decide (x10_3 < (t130.size : Int)) = true := decide_eq_true c28
                          clear c28
                          by_cases c30 : (bt t130 x10_3) = 114
                          · rw [if_pos c30] at H
                            have c30b0 : ((bt t130 x10_3) == 114) = true := beq_iff_eq.mpr c30
                            have c30b1 : ((bt t130 x10_3) != 114) = false := bne_eq_false_iff_eq.mpr c30
                            clear c30
                            by_cases c31 : x10_3 < (y131.length : Int)
                            · rw [if_pos c31] at H
                              have c31b0 : decide (x10_3 < (y131.length : Int)) = true := decide_eq_true c31
                              clear c31
                              by_cases c32 : (rd y131 x10_3) < 0
                              · rw [if_pos c32] at H
                                have c32b0 : decide ((rd y131 x10_3) < 0) = true := decide_eq_true c32
                                clear c32
                                as_aux_lemma =>
                                  have H' := Aside0.mk H
                                  clear H
                                  have p29 : 0 ≤ (x10_3 : Int) := of_decide_eq_true (by first | (with_reducible assumption) | assumption)
                                  have q29 : x10_3 < (t130.size : Int) := of_decide_eq_true (by first | (with_reducible assumption) | assumption)
                                  have hx29 := bt_at t130 x10_3
                                  replace p29 := eq_true p29
                                  replace q29 := eq_true q29
                                  obtain ⟨Ao33, co33, eo33⟩ := Kd.R_slice HO_8.out
                                  subst eo33
                                  have p136 : 0 ≤ (x10_3 : Int) := of_decide_eq_true (by first | (with_reducible assumption) | assumption)
                                  have q136 : x10_3 < (y131.length : Int) := of_decide_eq_true (by first | (with_reducible assumption) | assumption)
                                  obtain ⟨ad136, e136, hx136_0⟩ := Kd.at_int (Kd.R_reads' HO_8.out).2.2 x10_3 p136 q136
                                  cases e136
                                  replace p136 := eq_true p136
                                  replace q136 := eq_true q136
                                  go_wp2
                                  repeat (go_quiet (fail); try go_wp2)
                                  go_meet
                                  case rel => exact ⟨_, (true), (by first | rfl | (simp; done) | (simp [*]; done)), H', ⟨by have := HJ3.out; have := HK2.out; have := HK3.out; first | omega | exact Nat.le_refl _⟩, ⟨by (with_reducible repeat (first | apply Kd.R_alloc | apply Kd.R_drewN | apply Kd.R_drew)); exact HO_8.out⟩, ⟨by (with_reducible repeat (first | refine blk_drewN ?_ _ | refine blk_drew ?_ | refine blk_alloc ?_ _)); exact BK129.out⟩, ⟨by repeat (first | (with_reducible first | exact HB.out | apply below_alloc | apply pw_below_drewN | apply below_drew1 | refine below_set ?_ GE129.out) | exact HB.out)⟩⟩
                              · rw [if_neg c32] at H
                                have c32b0 : decide ((rd y131 x10_3) < 0) = false := decide_eq_false c32
                                clear c32
                                as_aux_lemma =>
                                  have H' := Aside0.mk H
                                  clear H
                                  have p29 : 0 ≤ (x10_3 : Int) := of_decide_eq_true (by first | (with_reducible assumption) | assumption)
                                  have q29 : x10_3 < (t130.size : Int) := of_decide_eq_true (by first | (with_reducible assumption) | assumption)
                                  have hx29 := bt_at t130 x10_3
                                  replace p29 := eq_true p29
                                  replace q29 := eq_true q29
                                  obtain ⟨Ao34, co34, eo34⟩ := Kd.R_slice HO_8.out
                                  subst eo34
                                  have p136 : 0 ≤ (x10_3 : Int) := of_decide_eq_true (by first | (with_reducible assumption) | assumption)
                                  have q136 : x10_3 < (y131.length : Int) := of_decide_eq_true (by first | (with_reducible assumption) | assumption)
                                  obtain ⟨ad136, e136, hx136_0⟩ := Kd.at_int (Kd.R_reads' HO_8.out).2.2 x10_3 p136 q136
                                  cases e136
                                  replace p136 := eq_true p136
                                  replace q136 := eq_true q136
                                  have p137 : 0 ≤ (x10_3 : Int) := of_decide_eq_true (by first | (with_reducible assumption) | assumption)
                                  have q137 : x10_3 < (y131.length : Int) := of_decide_eq_true (by first | (with_reducible assumption) | assumption)
                                  obtain ⟨ad137, e137, hx137_0⟩ := Kd.at_int (Kd.R_reads' HO_8.out).2.2 x10_3 p137 q137
                                  obtain rfl : ad136 = ad137 := (by injection e137)
                                  replace p137 := eq_true p137
                                  replace q137 := eq_true q137
                                  go_wp2
                                  repeat (go_quiet (fail); try go_wp2)
                                  go_meet
                                  case rel => exact ⟨_, (decide ((rd y131 x10_3) > 7)), (by first | rfl | (simp; done) | (simp [*]; done)), H', ⟨by have := HJ3.out; have := HK2.out; have := HK3.out; first | omega | exact Nat.le_refl _⟩, ⟨by (with_reducible repeat (first | apply Kd.R_alloc | apply Kd.R_drewN | apply Kd.R_drew)); exact HO_8.out⟩, ⟨by (with_reducible repeat (first | refine blk_drewN ?_ _ | refine blk_drew ?_ | refine blk_alloc ?_ _)); exact BK129.out⟩, ⟨by repeat (first | (with_reducible first | exact HB.out | apply below_alloc | apply pw_below_drewN | apply below_drew1 | refine below_set ?_ GE129.out) | exact HB.out)⟩⟩
                            · rw [if_neg c31] at H
                              exact absurd H (by simp)
                          · rw [if_neg c30] at H
                            have c30b0 : ((bt t130 x10_3) == 114) = false := beq_eq_false_iff_ne.mpr c30
                            have c30b1 : ((bt t130 x10_3) != 114) = true := bne_iff_ne.mpr c30
                            as_aux_lemma =>
                              have H' := Aside0.mk H
                              clear H
                              have p29 : 0 ≤ (x10_3 : Int) := of_decide_eq_true (by first | (with_reducible assumption) | assumption)
                              have q29 : x10_3 < (t130.size : Int) := of_decide_eq_true (by first | (with_reducible assumption) | assumption)
                              have hx29 := bt_at t130 x10_3
                              replace p29 := eq_true p29
                              replace q29 := eq_true q29
                              go_wp2
                              repeat (go_quiet (fail); try go_wp2)
                              go_meet
                              case rel => exact ⟨_, (false), (by first | rfl | (simp; done) | (simp [*]; done)), H', ⟨by have := HJ3.out; have := HK2.out; have := HK3.out; first | omega | exact Nat.le_refl _⟩, ⟨by (with_reducible repeat (first | apply Kd.R_alloc | apply Kd.R_drewN | apply Kd.R_drew)); exact HO_8.out⟩, ⟨by (with_reducible repeat (first | refine blk_drewN ?_ _ | refine blk_drew ?_ | refine blk_alloc ?_ _)); exact BK129.out⟩, ⟨by repeat (first | (with_reducible first | exact HB.out | apply below_alloc | apply pw_below_drewN | apply below_drew1 | refine below_set ?_ GE129.out) | exact HB.out)⟩⟩
                        · rw [if_neg c28] at H
                          exact absurd H (by simp)
                      · rw [if_neg c27] at H
                        exact absurd H (by simp)
                    case rest =>
                      clear HC26
                      try clear c1
                      try clear p1
                      try clear q1
                      try clear hx1
                      try clear c2
                      try clear p2
                      try clear q2
                      try clear hx2
                      try clear c3
                      try clear c6
                      try clear c6b0
                      try clear p6
                      try clear c9
                      try clear p13
                      try clear q13
                      try clear hx13
                      try clear c16
                      try clear c16b0
                      try clear c17
                      try clear c17b0
                      try clear c18
                      try clear c18b0
                      try clear c19
                      try clear p19
                      try clear q19
                      try clear hx19
                      try clear c20
                      try clear c20b0
                      try clear c20b1
                      try clear c21
                      try clear c21b0
                      try clear c22
                      try clear c22b0
                      try clear c22b1
                      try clear c25
                      try clear c25b0
                      try clear c27
                      try clear c27b0
                      try clear c28
                      try clear c28b0
                      try clear p29
                      try clear q29
                      try clear hx29
                      try clear c30
                      try clear c30b0
                      try clear c30b1
                      try clear c31
                      try clear c31b0
                      try clear c32
                      try clear c32b0
                      try clear hcz11_0
                      try clear hcz11_1
                      try clear hcz11_2
                      try clear hcz11_3
                      try clear hcz11_4
                      try clear hcz13_0
                      try clear hcz13_1
                      try clear hcz13_2
                      try clear hcz13_3
                      try clear hcz13_4
                      try clear hcz7_0
                      try clear hcz7_1
                      try clear hcz7_2
                      try clear hcz7_3
                      try clear hcz7_4
                      try clear hcz8_0
                      try clear hcz8_1
                      try clear hcz8_2
                      try clear hcz8_3
                      try clear hcz8_4
                      try clear hfz11_0
                      try clear hfz11_1
                      try clear hfz11_2
                      try clear hfz11_3
                      try clear hfz11_4
                      try clear hfz13_0
                      try clear hfz13_1
                      try clear hfz13_2
                      try clear hfz13_3
                      try clear hfz13_4
                      try clear hfz7_0
                      try clear hfz7_1
                      try clear hfz7_2
                      try clear hfz7_3
                      try clear hfz7_4
                      try clear hfz8_0
                      try clear hfz8_1
                      try clear hfz8_2
                      try clear hfz8_3
                      try clear hfz8_4
                      try clear hx134_0
                      try clear hx136_0
                      try clear hx137_0
                      try clear p1
                      try clear p13
                      try clear p134
                      try clear p136
                      try clear p137
                      try clear p19
                      try clear p2
                      try clear p29
                      try clear p6
                      try clear q1
                      try clear q13
                      try clear q134
                      try clear q136
                      try clear q137
                      try clear q19
                      try clear q29
                      obtain ⟨kq, x50_25, rfl, HA, HJ25, HO_8, BK129, HB⟩ := hcut
                      cases kq with
                      | zero => exact absurd HA.out (by simp [haymowref03_instr.j3])
                      | succ kj25 =>
                        have H := HA.out
                        clear HA
                        simp only [haymowref03_instr.j3] at H
                        have HC35 := Aside0.mk H
                        clear H
                        go_upto_if 50 with (fail)
                        repeat (go_quiet (fail); go_upto_if 50 with (fail))
                        go_cut [50] (fun v50 wc => ∃ (kq : Nat) (x50_34 : Bool), v50 = .bool x50_34 ∧ Aside0 (haymowref03_instr.j4 kq l0 a1 t130 y131 x10_3 x50_34 a2_0 a2_1 a2_2 a2_3 a2_4 = some r) ∧ Aside0 (kq ≤ kj25) ∧ Aside0 (Kd.R (Kd.int .i64) 3 wc w.heap.size (fun _ => True) v132 y131) ∧ Aside0 (wc.heap[gb129]? = some (.cells #[.int .i64 a2_0, .int .i64 a2_1, .int .i64 a2_2, .int .i64 a2_3, .int .i64 a2_4] 58 (0, 0))) ∧ Aside0 (Below w.heap.size w wc))
                        case first =>
                          have H := HC35.out
                          clear HC35
                          by_cases c36 : x50_25 = true
                          · subst c36
                            have H1 : (haymowref03_instr.j4 kj25 l0 a1 t130 y131 x10_3 true a2_0 a2_1 a2_2 a2_3 a2_4) = some r := by rw [if_pos rfl] at H; exact H
                            clear H
                            have H := H1
                            clear H1
                            as_aux_lemma =>
                              have H' := Aside0.mk H
                              clear H
                              go_wp2
                              repeat (go_quiet (fail); try go_wp2)
                              go_meet
                              case rel => exact ⟨_, (true), (by first | rfl | (simp; done) | (simp [*]; done)), H', ⟨by have := HJ3.out; have := HK2.out; have := HK3.out; have := HJ25.out; first | omega | exact Nat.le_refl _⟩, ⟨by (with_reducible repeat (first | apply Kd.R_alloc | apply Kd.R_drewN | apply Kd.R_drew)); exact HO_8.out⟩, ⟨by (with_reducible repeat (first | refine blk_drewN ?_ _ | refine blk_drew ?_ | refine blk_alloc ?_ _)); exact BK129.out⟩, ⟨by repeat (first | (with_reducible first | exact HB.out | apply below_alloc | apply pw_below_drewN | apply below_drew1 | refine below_set ?_ GE129.out) | exact HB.out)⟩⟩
                          · replace c36 := Bool.eq_false_iff.mpr c36
                            subst c36
                            have H1 : (if 0 ≤ x10_3 then (if x10_3 < (t130.size : Int) then (if (bt t130 x10_3) = 104 then (if x10_3 < (y131.length : Int) then (if (rd y131 x10_3) < 0 then (haymowref03_instr.j4 kj25 l0 a1 t130 y131 x10_3 true a2_0 a2_1 a2_2 a2_3 a2_4) else (haymowref03_instr.j4 kj25 l0 a1 t130 y131 x10_3 (decide ((rd y131 x10_3) > 3)) a2_0 a2_1 a2_2 a2_3 a2_4)) else (none)) else (haymowref03_instr.j4 kj25 l0 a1 t130 y131 x10_3 false a2_0 a2_1 a2_2 a2_3 a2_4)) else (none)) else (none)) = some r := by rw [if_neg (show ¬ (false = true) by decide)] at H; exact H
                            clear H
                            have H := H1
                            clear H1
                            by_cases c37 : 0 ≤ x10_3
                            · rw [if_pos c37] at H
                              have c37b0 : decide (0 ≤ x10_3) = true := decide_eq_true c37
                              clear c37
                              (first | rw [c37b0] | (simp only [i64_w, i32_w]; rw [c37b0]) | skip)
                              by_cases c38 : x10_3 < (t130.size : Int)
                              · rw [if_pos c38] at H
                                have c38b0 : decide (x10_3 < (t130.size : Int)) = true := decide_eq_true c38
                                clear c38
                                by_cases c40 : (bt t130 x10_3) = 104
                                · rw [if_pos c40] at H
                                  have c40b0 : ((bt t130 x10_3) == 104) = true := beq_iff_eq.mpr c40
                                  have c40b1 : ((bt t130 x10_3) != 104) = false := bne_eq_false_iff_eq.mpr c40
                                  clear c40
                                  by_cases c41 : x10_3 < (y131.length : Int)
                                  · rw [if_pos c41] at H
                                    have c41b0 : decide (x10_3 < (y131.length : Int)) = true := decide_eq_true c41
                                    clear c41
                                    by_cases c42 : (rd y131 x10_3) < 0
                                    · rw [if_pos c42] at H
                                      have c42b0 : decide ((rd y131 x10_3) < 0) = true := decide_eq_true c42
                                      clear c42
                                      as_aux_lemma =>
                                        have H' := Aside0.mk H
                                        clear H
                                        have p39 : 0 ≤ (x10_3 : Int) := of_decide_eq_true (by first | (with_reducible assumption) | assumption)
                                        have q39 : x10_3 < (t130.size : Int) := of_decide_eq_true (by first | (with_reducible assumption) | assumption)
                                        have hx39 := bt_at t130 x10_3
                                        replace p39 := eq_true p39
                                        replace q39 := eq_true q39
                                        obtain ⟨Ao43, co43, eo43⟩ := Kd.R_slice HO_8.out
                                        subst eo43
                                        have p138 : 0 ≤ (x10_3 : Int) := of_decide_eq_true (by first | (with_reducible assumption) | assumption)
                                        have q138 : x10_3 < (y131.length : Int) := of_decide_eq_true (by first | (with_reducible assumption) | assumption)
                                        obtain ⟨ad138, e138, hx138_0⟩ := Kd.at_int (Kd.R_reads' HO_8.out).2.2 x10_3 p138 q138
                                        cases e138
                                        replace p138 := eq_true p138
                                        replace q138 := eq_true q138
                                        go_wp2
                                        repeat (go_quiet (fail); try go_wp2)
                                        go_meet
                                        case rel => exact ⟨_, (true), (by first | rfl | (simp; done) | (simp [*]; done)), H', ⟨by have := HJ3.out; have := HK2.out; have := HK3.out; have := HJ25.out; first | omega | exact Nat.le_refl _⟩, ⟨by (with_reducible repeat (first | apply Kd.R_alloc | apply Kd.R_drewN | apply Kd.R_drew)); exact HO_8.out⟩, ⟨by (with_reducible repeat (first | refine blk_drewN ?_ _ | refine blk_drew ?_ | refine blk_alloc ?_ _)); exact BK129.out⟩, ⟨by repeat (first | (with_reducible first | exact HB.out | apply below_alloc | apply pw_below_drewN | apply below_drew1 | refine below_set ?_ GE129.out) | exact HB.out)⟩⟩
                                    · rw [if_neg c42] at H
                                      have c42b0 : decide ((rd y131 x10_3) < 0) = false := decide_eq_false c42
                                      clear c42
                                      as_aux_lemma =>
                                        have H' := Aside0.mk H
                                        clear H
                                        have p39 : 0 ≤ (x10_3 : Int) := of_decide_eq_true (by first | (with_reducible assumption) | assumption)
                                        have q39 : x10_3 < (t130.size : Int) := of_decide_eq_true (by first | (with_reducible assumption) | assumption)
                                        have hx39 := bt_at t130 x10_3
                                        replace p39 := eq_true p39
                                        replace q39 := eq_true q39
                                        obtain ⟨Ao44, co44, eo44⟩ := Kd.R_slice HO_8.out
                                        subst eo44
                                        have p138 : 0 ≤ (x10_3 : Int) := of_decide_eq_true (by first | (with_reducible assumption) | assumption)
                                        have q138 : x10_3 < (y131.length : Int) := of_decide_eq_true (by first | (with_reducible assumption) | assumption)
                                        obtain ⟨ad138, e138, hx138_0⟩ := Kd.at_int (Kd.R_reads' HO_8.out).2.2 x10_3 p138 q138
                                        cases e138
                                        replace p138 := eq_true p138
                                        replace q138 := eq_true q138
                                        have p139 : 0 ≤ (x10_3 : Int) := of_decide_eq_true (by first | (with_reducible assumption) | assumption)
                                        have q139 : x10_3 < (y131.length : Int) := of_decide_eq_true (by first | (with_reducible assumption) | assumption)
                                        obtain ⟨ad139, e139, hx139_0⟩ := Kd.at_int (Kd.R_reads' HO_8.out).2.2 x10_3 p139 q139
                                        obtain rfl : ad138 = ad139 := (by injection e139)
                                        replace p139 := eq_true p139
                                        replace q139 := eq_true q139
                                        go_wp2
                                        repeat (go_quiet (fail); try go_wp2)
                                        go_meet
                                        case rel => exact ⟨_, (decide ((rd y131 x10_3) > 3)), (by first | rfl | (simp; done) | (simp [*]; done)), H', ⟨by have := HJ3.out; have := HK2.out; have := HK3.out; have := HJ25.out; first | omega | exact Nat.le_refl _⟩, ⟨by (with_reducible repeat (first | apply Kd.R_alloc | apply Kd.R_drewN | apply Kd.R_drew)); exact HO_8.out⟩, ⟨by (with_reducible repeat (first | refine blk_drewN ?_ _ | refine blk_drew ?_ | refine blk_alloc ?_ _)); exact BK129.out⟩, ⟨by repeat (first | (with_reducible first | exact HB.out | apply below_alloc | apply pw_below_drewN | apply below_drew1 | refine below_set ?_ GE129.out) | exact HB.out)⟩⟩
                                  · rw [if_neg c41] at H
                                    exact absurd H (by simp)
                                · rw [if_neg c40] at H
                                  have c40b0 : ((bt t130 x10_3) == 104) = false := beq_eq_false_iff_ne.mpr c40
                                  have c40b1 : ((bt t130 x10_3) != 104) = true := bne_iff_ne.mpr c40
                                  as_aux_lemma =>
                                    have H' := Aside0.mk H
                                    clear H
                                    have p39 : 0 ≤ (x10_3 : Int) := of_decide_eq_true (by first | (with_reducible assumption) | assumption)
                                    have q39 : x10_3 < (t130.size : Int) := of_decide_eq_true (by first | (with_reducible assumption) | assumption)
                                    have hx39 := bt_at t130 x10_3
                                    replace p39 := eq_true p39
                                    replace q39 := eq_true q39
                                    go_wp2
                                    repeat (go_quiet (fail); try go_wp2)
                                    go_meet
                                    case rel => exact ⟨_, (false), (by first | rfl | (simp; done) | (simp [*]; done)), H', ⟨by have := HJ3.out; have := HK2.out; have := HK3.out; have := HJ25.out; first | omega | exact Nat.le_refl _⟩, ⟨by (with_reducible repeat (first | apply Kd.R_alloc | apply Kd.R_drewN | apply Kd.R_drew)); exact HO_8.out⟩, ⟨by (with_reducible repeat (first | refine blk_drewN ?_ _ | refine blk_drew ?_ | refine blk_alloc ?_ _)); exact BK129.out⟩, ⟨by repeat (first | (with_reducible first | exact HB.out | apply below_alloc | apply pw_below_drewN | apply below_drew1 | refine below_set ?_ GE129.out) | exact HB.out)⟩⟩
                              · rw [if_neg c38] at H
                                exact absurd H (by simp)
                            · rw [if_neg c37] at H
                              exact absurd H (by simp)
                        case rest =>
                          clear HC35
                          try clear c1
                          try clear p1
                          try clear q1
                          try clear hx1
                          try clear c2
                          try clear p2
                          try clear q2
                          try clear hx2
                          try clear c3
                          try clear p3
                          try clear q3
                          try clear hx3
                          try clear c4
                          try clear c6
                          try clear c6b0
                          try clear p6
                          try clear c9
                          try clear p13
                          try clear q13
                          try clear hx13
                          try clear c16
                          try clear c16b0
                          try clear c17
                          try clear c17b0
                          try clear c18
                          try clear c18b0
                          try clear c19
                          try clear p19
                          try clear q19
                          try clear hx19
                          try clear c20
                          try clear c20b0
                          try clear c20b1
                          try clear c21
                          try clear c21b0
                          try clear c22
                          try clear c22b0
                          try clear c22b1
                          try clear c25
                          try clear c25b0
                          try clear c27
                          try clear c27b0
                          try clear c28
                          try clear c28b0
                          try clear p29
                          try clear q29
                          try clear hx29
                          try clear c30
                          try clear c30b0
                          try clear c30b1
                          try clear c31
                          try clear c31b0
                          try clear c32
                          try clear c32b0
                          try clear c36
                          try clear c37
                          try clear c37b0
                          try clear c38
                          try clear c38b0
                          try clear p39
                          try clear q39
                          try clear hx39
                          try clear c40
                          try clear c40b0
                          try clear c40b1
                          try clear c41
                          try clear c41b0
                          try clear c42
                          try clear c42b0
                          try clear hcz11_0
                          try clear hcz11_1
                          try clear hcz11_2
                          try clear hcz11_3
                          try clear hcz11_4
                          try clear hcz13_0
                          try clear hcz13_1
                          try clear hcz13_2
                          try clear hcz13_3
                          try clear hcz13_4
                          try clear hcz7_0
                          try clear hcz7_1
                          try clear hcz7_2
                          try clear hcz7_3
                          try clear hcz7_4
                          try clear hcz8_0
                          try clear hcz8_1
                          try clear hcz8_2
                          try clear hcz8_3
                          try clear hcz8_4
                          try clear hfz11_0
                          try clear hfz11_1
                          try clear hfz11_2
                          try clear hfz11_3
                          try clear hfz11_4
                          try clear hfz13_0
                          try clear hfz13_1
                          try clear hfz13_2
                          try clear hfz13_3
                          try clear hfz13_4
                          try clear hfz7_0
                          try clear hfz7_1
                          try clear hfz7_2
                          try clear hfz7_3
                          try clear hfz7_4
                          try clear hfz8_0
                          try clear hfz8_1
                          try clear hfz8_2
                          try clear hfz8_3
                          try clear hfz8_4
                          try clear hx134_0
                          try clear hx136_0
                          try clear hx137_0
                          try clear hx138_0
                          try clear hx139_0
                          try clear p1
                          try clear p13
                          try clear p134
                          try clear p136
                          try clear p137
                          try clear p138
                          try clear p139
                          try clear p19
                          try clear p2
                          try clear p29
                          try clear p39
                          try clear p6
                          try clear q1
                          try clear q13
                          try clear q134
                          try clear q136
                          try clear q137
                          try clear q138
                          try clear q139
                          try clear q19
                          try clear q2
                          try clear q29
                          try clear q39
                          obtain ⟨kq, x50_34, rfl, HA, HJ34, HO_8, BK129, HB⟩ := hcut
                          cases kq with
                          | zero => exact absurd HA.out (by simp [haymowref03_instr.j4])
                          | succ kj34 =>
                            have H := HA.out
                            clear HA
                            simp only [haymowref03_instr.j4] at H
                            by_cases c45 : x50_34 = true
                            · subst c45
                              have H1 : (some 6) = some r := by rw [if_pos rfl] at H; exact H
                              clear H
                              have H := H1
                              clear H1
                              as_aux_lemma =>
                                obtain rfl := Option.some.inj H
                                go_wp2
                                repeat (go_quiet (fail); try go_wp2)
                                go_ret
                                exact ⟨by first | rfl | (simp [errW_none, errW_some] <;> rfl) | (simp [*, errW_none, errW_some] <;> rfl), by repeat (first | (with_reducible first | exact HB.out | apply below_alloc | apply pw_below_drewN | apply below_drew1 | refine below_set ?_ GE129.out) | exact HB.out)⟩
                            · replace c45 := Bool.eq_false_iff.mpr c45
                              subst c45
                              have H1 : (if 0 ≤ x10_3 then (if x10_3 < (t130.size : Int) then (if (bt t130 x10_3) = 102 then (if x10_3 < (y131.length : Int) then (if (rd y131 x10_3) < 0 then (haymowref03_instr.j5 kj34 l0 a1 t130 y131 x10_3 true a2_0 a2_1 a2_2 a2_3 a2_4) else (haymowref03_instr.j5 kj34 l0 a1 t130 y131 x10_3 (decide ((rd y131 x10_3) ≥ (l0.length : Int))) a2_0 a2_1 a2_2 a2_3 a2_4)) else (none)) else (haymowref03_instr.j5 kj34 l0 a1 t130 y131 x10_3 false a2_0 a2_1 a2_2 a2_3 a2_4)) else (none)) else (none)) = some r := by rw [if_neg (show ¬ (false = true) by decide)] at H; exact H
                              clear H
                              have H := H1
                              clear H1
                              have HC46 := Aside0.mk H
                              clear H
                              go_upto_region 16 with (fail)
                              repeat (go_quiet (fail); go_upto_region 16 with (fail))
                              go_cut [87] (fun v87 wc => ∃ (kq : Nat) (x87_45 : Bool), v87 = .bool x87_45 ∧ Aside0 (haymowref03_instr.j5 kq l0 a1 t130 y131 x10_3 x87_45 a2_0 a2_1 a2_2 a2_3 a2_4 = some r) ∧ Aside0 (kq ≤ kj34) ∧ Aside0 (Kd.R (Kd.int .i64) 3 wc w.heap.size (fun _ => True) v132 y131) ∧ Aside0 (wc.heap[gb129]? = some (.cells #[.int .i64 a2_0, .int .i64 a2_1, .int .i64 a2_2, .int .i64 a2_3, .int .i64 a2_4] 58 (0, 0))) ∧ Aside0 (Below w.heap.size w wc))
                              case first =>
                                have H := HC46.out
                                clear HC46
                                by_cases c47 : 0 ≤ x10_3
                                · rw [if_pos c47] at H
                                  have c47b0 : decide (0 ≤ x10_3) = true := decide_eq_true c47
                                  clear c47
                                  (first | rw [c47b0] | (simp only [i64_w, i32_w]; rw [c47b0]) | skip)
                                  by_cases c48 : x10_3 < (t130.size : Int)
                                  · rw [if_pos c48] at H
                                    have c48b0 : decide (x10_3 < (t130.size : Int)) = true := decide_eq_true c48
                                    clear c48
                                    by_cases c50 : (bt t130 x10_3) = 102
                                    · rw [if_pos c50] at H
                                      have c50b0 : ((bt t130 x10_3) == 102) = true := beq_iff_eq.mpr c50
                                      have c50b1 : ((bt t130 x10_3) != 102) = false := bne_eq_false_iff_eq.mpr c50
                                      clear c50
                                      by_cases c51 : x10_3 < (y131.length : Int)
                                      · rw [if_pos c51] at H
                                        have c51b0 : decide (x10_3 < (y131.length : Int)) = true := decide_eq_true c51
                                        clear c51
                                        by_cases c52 : (rd y131 x10_3) < 0
                                        · rw [if_pos c52] at H
                                          have c52b0 : decide ((rd y131 x10_3) < 0) = true := decide_eq_true c52
                                          clear c52
                                          as_aux_lemma =>
                                            have H' := Aside0.mk H
                                            clear H
                                            have p49 : 0 ≤ (x10_3 : Int) := of_decide_eq_true (by first | (with_reducible assumption) | assumption)
                                            have q49 : x10_3 < (t130.size : Int) := of_decide_eq_true (by first | (with_reducible assumption) | assumption)
                                            have hx49 := bt_at t130 x10_3
                                            replace p49 := eq_true p49
                                            replace q49 := eq_true q49
                                            obtain ⟨Ao53, co53, eo53⟩ := Kd.R_slice HO_8.out
                                            subst eo53
                                            have p140 : 0 ≤ (x10_3 : Int) := of_decide_eq_true (by first | (with_reducible assumption) | assumption)
                                            have q140 : x10_3 < (y131.length : Int) := of_decide_eq_true (by first | (with_reducible assumption) | assumption)
                                            obtain ⟨ad140, e140, hx140_0⟩ := Kd.at_int (Kd.R_reads' HO_8.out).2.2 x10_3 p140 q140
                                            cases e140
                                            replace p140 := eq_true p140
                                            replace q140 := eq_true q140
                                            go_wp2
                                            repeat (go_quiet (fail); try go_wp2)
                                            go_meet
                                            case rel => exact ⟨_, (true), (by first | rfl | (simp; done) | (simp [*]; done)), H', ⟨by have := HJ3.out; have := HK2.out; have := HK3.out; have := HJ25.out; have := HJ34.out; first | omega | exact Nat.le_refl _⟩, ⟨by (with_reducible repeat (first | apply Kd.R_alloc | apply Kd.R_drewN | apply Kd.R_drew)); exact HO_8.out⟩, ⟨by (with_reducible repeat (first | refine blk_drewN ?_ _ | refine blk_drew ?_ | refine blk_alloc ?_ _)); exact BK129.out⟩, ⟨by repeat (first | (with_reducible first | exact HB.out | apply below_alloc | apply pw_below_drewN | apply below_drew1 | refine below_set ?_ GE129.out) | exact HB.out)⟩⟩
                                        · rw [if_neg c52] at H
                                          have c52b0 : decide ((rd y131 x10_3) < 0) = false := decide_eq_false c52
                                          clear c52
                                          as_aux_lemma =>
                                            have H' := Aside0.mk H
                                            clear H
                                            have p49 : 0 ≤ (x10_3 : Int) := of_decide_eq_true (by first | (with_reducible assumption) | assumption)
                                            have q49 : x10_3 < (t130.size : Int) := of_decide_eq_true (by first | (with_reducible assumption) | assumption)
                                            have hx49 := bt_at t130 x10_3
                                            replace p49 := eq_true p49
                                            replace q49 := eq_true q49
                                            obtain ⟨Ao54, co54, eo54⟩ := Kd.R_slice HO_8.out
                                            subst eo54
                                            have p140 : 0 ≤ (x10_3 : Int) := of_decide_eq_true (by first | (with_reducible assumption) | assumption)
                                            have q140 : x10_3 < (y131.length : Int) := of_decide_eq_true (by first | (with_reducible assumption) | assumption)
                                            obtain ⟨ad140, e140, hx140_0⟩ := Kd.at_int (Kd.R_reads' HO_8.out).2.2 x10_3 p140 q140
                                            cases e140
                                            replace p140 := eq_true p140
                                            replace q140 := eq_true q140
                                            have p141 : 0 ≤ (x10_3 : Int) := of_decide_eq_true (by first | (with_reducible assumption) | assumption)
                                            have q141 : x10_3 < (y131.length : Int) := of_decide_eq_true (by first | (with_reducible assumption) | assumption)
                                            obtain ⟨ad141, e141, hx141_0⟩ := Kd.at_int (Kd.R_reads' HO_8.out).2.2 x10_3 p141 q141
                                            obtain rfl : ad140 = ad141 := (by injection e141)
                                            replace p141 := eq_true p141
                                            replace q141 := eq_true q141
                                            go_wp2
                                            repeat (go_quiet (fail); try go_wp2)
                                            go_meet
                                            case rel => exact ⟨_, (decide ((rd y131 x10_3) ≥ (l0.length : Int))), (by first | rfl | (simp; done) | (simp [*]; done)), H', ⟨by have := HJ3.out; have := HK2.out; have := HK3.out; have := HJ25.out; have := HJ34.out; first | omega | exact Nat.le_refl _⟩, ⟨by (with_reducible repeat (first | apply Kd.R_alloc | apply Kd.R_drewN | apply Kd.R_drew)); exact HO_8.out⟩, ⟨by (with_reducible repeat (first | refine blk_drewN ?_ _ | refine blk_drew ?_ | refine blk_alloc ?_ _)); exact BK129.out⟩, ⟨by repeat (first | (with_reducible first | exact HB.out | apply below_alloc | apply pw_below_drewN | apply below_drew1 | refine below_set ?_ GE129.out) | exact HB.out)⟩⟩
                                      · rw [if_neg c51] at H
                                        exact absurd H (by simp)
                                    · rw [if_neg c50] at H
                                      have c50b0 : ((bt t130 x10_3) == 102) = false := beq_eq_false_iff_ne.mpr c50
                                      have c50b1 : ((bt t130 x10_3) != 102) = true := bne_iff_ne.mpr c50
                                      as_aux_lemma =>
                                        have H' := Aside0.mk H
                                        clear H
                                        have p49 : 0 ≤ (x10_3 : Int) := of_decide_eq_true (by first | (with_reducible assumption) | assumption)
                                        have q49 : x10_3 < (t130.size : Int) := of_decide_eq_true (by first | (with_reducible assumption) | assumption)
                                        have hx49 := bt_at t130 x10_3
                                        replace p49 := eq_true p49
                                        replace q49 := eq_true q49
                                        go_wp2
                                        repeat (go_quiet (fail); try go_wp2)
                                        go_meet
                                        case rel => exact ⟨_, (false), (by first | rfl | (simp; done) | (simp [*]; done)), H', ⟨by have := HJ3.out; have := HK2.out; have := HK3.out; have := HJ25.out; have := HJ34.out; first | omega | exact Nat.le_refl _⟩, ⟨by (with_reducible repeat (first | apply Kd.R_alloc | apply Kd.R_drewN | apply Kd.R_drew)); exact HO_8.out⟩, ⟨by (with_reducible repeat (first | refine blk_drewN ?_ _ | refine blk_drew ?_ | refine blk_alloc ?_ _)); exact BK129.out⟩, ⟨by repeat (first | (with_reducible first | exact HB.out | apply below_alloc | apply pw_below_drewN | apply below_drew1 | refine below_set ?_ GE129.out) | exact HB.out)⟩⟩
                                  · rw [if_neg c48] at H
                                    exact absurd H (by simp)
                                · rw [if_neg c47] at H
                                  exact absurd H (by simp)
                              case rest =>
                                clear HC46
                                try clear c1
                                try clear p1
                                try clear q1
                                try clear hx1
                                try clear c2
                                try clear p2
                                try clear q2
                                try clear hx2
                                try clear c3
                                try clear p3
                                try clear q3
                                try clear hx3
                                try clear c4
                                try clear p4
                                try clear q4
                                try clear hx4
                                try clear c5
                                try clear c6
                                try clear c6b0
                                try clear p6
                                try clear c9
                                try clear p13
                                try clear q13
                                try clear hx13
                                try clear p14
                                try clear q14
                                try clear hx14
                                try clear c16
                                try clear c16b0
                                try clear c17
                                try clear c17b0
                                try clear c18
                                try clear c18b0
                                try clear c19
                                try clear p19
                                try clear q19
                                try clear hx19
                                try clear c20
                                try clear c20b0
                                try clear c20b1
                                try clear c21
                                try clear c21b0
                                try clear c22
                                try clear c22b0
                                try clear c22b1
                                try clear c25
                                try clear c25b0
                                try clear c27
                                try clear c27b0
                                try clear c28
                                try clear c28b0
                                try clear p29
                                try clear q29
                                try clear hx29
                                try clear c30
                                try clear c30b0
                                try clear c30b1
                                try clear c31
                                try clear c31b0
                                try clear c32
                                try clear c32b0
                                try clear c36
                                try clear c37
                                try clear c37b0
                                try clear c38
                                try clear c38b0
                                try clear p39
                                try clear q39
                                try clear hx39
                                try clear c40
                                try clear c40b0
                                try clear c40b1
                                try clear c41
                                try clear c41b0
                                try clear c42
                                try clear c42b0
                                try clear c45
                                try clear c47
                                try clear c47b0
                                try clear c48
                                try clear c48b0
                                try clear p49
                                try clear q49
                                try clear hx49
                                try clear c50
                                try clear c50b0
                                try clear c50b1
                                try clear c51
                                try clear c51b0
                                try clear c52
                                try clear c52b0
                                try clear hcz11_0
                                try clear hcz11_1
                                try clear hcz11_2
                                try clear hcz11_3
                                try clear hcz11_4
                                try clear hcz13_0
                                try clear hcz13_1
                                try clear hcz13_2
                                try clear hcz13_3
                                try clear hcz13_4
                                try clear hcz7_0
                                try clear hcz7_1
                                try clear hcz7_2
                                try clear hcz7_3
                                try clear hcz7_4
                                try clear hcz8_0
                                try clear hcz8_1
                                try clear hcz8_2
                                try clear hcz8_3
                                try clear hcz8_4
                                try clear hfz11_0
                                try clear hfz11_1
                                try clear hfz11_2
                                try clear hfz11_3
                                try clear hfz11_4
                                try clear hfz13_0
                                try clear hfz13_1
                                try clear hfz13_2
                                try clear hfz13_3
                                try clear hfz13_4
                                try clear hfz7_0
                                try clear hfz7_1
                                try clear hfz7_2
                                try clear hfz7_3
                                try clear hfz7_4
                                try clear hfz8_0
                                try clear hfz8_1
                                try clear hfz8_2
                                try clear hfz8_3
                                try clear hfz8_4
                                try clear hx134_0
                                try clear hx136_0
                                try clear hx137_0
                                try clear hx138_0
                                try clear hx139_0
                                try clear hx140_0
                                try clear hx141_0
                                try clear p1
                                try clear p13
                                try clear p134
                                try clear p136
                                try clear p137
                                try clear p138
                                try clear p139
                                try clear p140
                                try clear p141
                                try clear p19
                                try clear p2
                                try clear p29
                                try clear p3
                                try clear p39
                                try clear p49
                                try clear p6
                                try clear q1
                                try clear q13
                                try clear q134
                                try clear q136
                                try clear q137
                                try clear q138
                                try clear q139
                                try clear q140
                                try clear q141
                                try clear q19
                                try clear q2
                                try clear q29
                                try clear q3
                                try clear q39
                                try clear q49
                                obtain ⟨kq, x87_45, rfl, HA, HJ45, HO_8, BK129, HB⟩ := hcut
                                cases kq with
                                | zero => exact absurd HA.out (by simp [haymowref03_instr.j5])
                                | succ kj45 =>
                                  have H := HA.out
                                  clear HA
                                  simp only [haymowref03_instr.j5] at H
                                  by_cases c55 : x87_45 = true
                                  · subst c55
                                    have H1 : (some 5) = some r := by rw [if_pos rfl] at H; exact H
                                    clear H
                                    have H := H1
                                    clear H1
                                    as_aux_lemma =>
                                      obtain rfl := Option.some.inj H
                                      go_wp2
                                      repeat (go_quiet (fail); try go_wp2)
                                      go_ret
                                      exact ⟨by first | rfl | (simp [errW_none, errW_some] <;> rfl) | (simp [*, errW_none, errW_some] <;> rfl), by repeat (first | (with_reducible first | exact HB.out | apply below_alloc | apply pw_below_drewN | apply below_drew1 | refine below_set ?_ GE129.out) | exact HB.out)⟩
                                  · replace c55 := Bool.eq_false_iff.mpr c55
                                    subst c55
                                    have H1 : (if 0 ≤ x10_3 then (if x10_3 < (t130.size : Int) then (if (bt t130 x10_3) = 116 then (if x10_3 < (y131.length : Int) then (if (rd y131 x10_3) < 0 then (haymowref03_instr.j6 kj45 l0 a1 t130 y131 x10_3 true a2_0 a2_1 a2_2 a2_3 a2_4) else (if 0 ≤ a1 then (if a1 < (l0.length : Int) then (haymowref03_instr.j6 kj45 l0 a1 t130 y131 x10_3 (decide ((rd y131 x10_3) ≥ (((rd_T50 l0 a1).f1).length : Int))) a2_0 a2_1 a2_2 a2_3 a2_4) else (none)) else (none))) else (none)) else (haymowref03_instr.j6 kj45 l0 a1 t130 y131 x10_3 false a2_0 a2_1 a2_2 a2_3 a2_4)) else (none)) else (none)) = some r := by rw [if_neg (show ¬ (false = true) by decide)] at H; exact H
                                    clear H
                                    have H := H1
                                    clear H1
                                    have HC56 := Aside0.mk H
                                    clear H
                                    go_upto_region 18 with (fail)
                                    repeat (go_quiet (fail); go_upto_region 18 with (fail))
                                    go_cut [108] (fun v108 wc => ∃ (kq : Nat) (x108_55 : Bool), v108 = .bool x108_55 ∧ Aside0 (haymowref03_instr.j6 kq l0 a1 t130 y131 x10_3 x108_55 a2_0 a2_1 a2_2 a2_3 a2_4 = some r) ∧ Aside0 (kq ≤ kj45) ∧ Aside0 (Kd.R (Kd.int .i64) 3 wc w.heap.size (fun _ => True) v132 y131) ∧ Aside0 (wc.heap[gb129]? = some (.cells #[.int .i64 a2_0, .int .i64 a2_1, .int .i64 a2_2, .int .i64 a2_3, .int .i64 a2_4] 58 (0, 0))) ∧ Aside0 (Below w.heap.size w wc))
                                    case first =>
                                      have H := HC56.out
                                      clear HC56
                                      by_cases c57 : 0 ≤ x10_3
                                      · rw [if_pos c57] at H
                                        have c57b0 : decide (0 ≤ x10_3) = true := decide_eq_true c57
                                        clear c57
                                        (first | rw [c57b0] | (simp only [i64_w, i32_w]; rw [c57b0]) | skip)
                                        by_cases c58 : x10_3 < (t130.size : Int)
                                        · rw [if_pos c58] at H
                                          have c58b0 : decide (x10_3 < (t130.size : Int)) = true := decide_eq_true c58
                                          clear c58
                                          by_cases c60 : (bt t130 x10_3) = 116
                                          · rw [if_pos c60] at H
                                            have c60b0 : ((bt t130 x10_3) == 116) = true := beq_iff_eq.mpr c60
                                            have c60b1 : ((bt t130 x10_3) != 116) = false := bne_eq_false_iff_eq.mpr c60
                                            clear c60
                                            by_cases c61 : x10_3 < (y131.length : Int)
                                            · rw [if_pos c61] at H
                                              have c61b0 : decide (x10_3 < (y131.length : Int)) = true := decide_eq_true c61
                                              clear c61
                                              by_cases c62 : (rd y131 x10_3) < 0
                                              · rw [if_pos c62] at H
                                                have c62b0 : decide ((rd y131 x10_3) < 0) = true := decide_eq_true c62
                                                clear c62
                                                as_aux_lemma =>
                                                  have H' := Aside0.mk H
                                                  clear H
                                                  have p59 : 0 ≤ (x10_3 : Int) := of_decide_eq_true (by first | (with_reducible assumption) | assumption)
                                                  have q59 : x10_3 < (t130.size : Int) := of_decide_eq_true (by first | (with_reducible assumption) | assumption)
                                                  have hx59 := bt_at t130 x10_3
                                                  replace p59 := eq_true p59
                                                  replace q59 := eq_true q59
                                                  obtain ⟨Ao63, co63, eo63⟩ := Kd.R_slice HO_8.out
                                                  subst eo63
                                                  have p142 : 0 ≤ (x10_3 : Int) := of_decide_eq_true (by first | (with_reducible assumption) | assumption)
                                                  have q142 : x10_3 < (y131.length : Int) := of_decide_eq_true (by first | (with_reducible assumption) | assumption)
                                                  obtain ⟨ad142, e142, hx142_0⟩ := Kd.at_int (Kd.R_reads' HO_8.out).2.2 x10_3 p142 q142
                                                  cases e142
                                                  replace p142 := eq_true p142
                                                  replace q142 := eq_true q142
                                                  go_wp2
                                                  repeat (go_quiet (fail); try go_wp2)
                                                  go_meet
                                                  case rel => exact ⟨_, (true), (by first | rfl | (simp; done) | (simp [*]; done)), H', ⟨by have := HJ3.out; have := HK2.out; have := HK3.out; have := HJ25.out; have := HJ34.out; have := HJ45.out; first | omega | exact Nat.le_refl _⟩, ⟨by (with_reducible repeat (first | apply Kd.R_alloc | apply Kd.R_drewN | apply Kd.R_drew)); exact HO_8.out⟩, ⟨by (with_reducible repeat (first | refine blk_drewN ?_ _ | refine blk_drew ?_ | refine blk_alloc ?_ _)); exact BK129.out⟩, ⟨by repeat (first | (with_reducible first | exact HB.out | apply below_alloc | apply pw_below_drewN | apply below_drew1 | refine below_set ?_ GE129.out) | exact HB.out)⟩⟩
                                              · rw [if_neg c62] at H
                                                have c62b0 : decide ((rd y131 x10_3) < 0) = false := decide_eq_false c62
                                                clear c62
                                                by_cases c64 : 0 ≤ a1
                                                · rw [if_pos c64] at H
                                                  have c64b0 : decide (0 ≤ a1) = true := decide_eq_true c64
                                                  clear c64
                                                  by_cases c65 : a1 < (l0.length : Int)
                                                  · rw [if_pos c65] at H
                                                    have c65b0 : decide (a1 < (l0.length : Int)) = true := decide_eq_true c65
                                                    clear c65
                                                    as_aux_lemma =>
                                                      have H' := Aside0.mk H
                                                      clear H
                                                      have p59 : 0 ≤ (x10_3 : Int) := of_decide_eq_true (by first | (with_reducible assumption) | assumption)
                                                      have q59 : x10_3 < (t130.size : Int) := of_decide_eq_true (by first | (with_reducible assumption) | assumption)
                                                      have hx59 := bt_at t130 x10_3
                                                      replace p59 := eq_true p59
                                                      replace q59 := eq_true q59
                                                      obtain ⟨Ao66, co66, eo66⟩ := Kd.R_slice HO_8.out
                                                      subst eo66
                                                      have p142 : 0 ≤ (x10_3 : Int) := of_decide_eq_true (by first | (with_reducible assumption) | assumption)
                                                      have q142 : x10_3 < (y131.length : Int) := of_decide_eq_true (by first | (with_reducible assumption) | assumption)
                                                      obtain ⟨ad142, e142, hx142_0⟩ := Kd.at_int (Kd.R_reads' HO_8.out).2.2 x10_3 p142 q142
                                                      cases e142
                                                      replace p142 := eq_true p142
                                                      replace q142 := eq_true q142
                                                      have p143 : 0 ≤ (x10_3 : Int) := of_decide_eq_true (by first | (with_reducible assumption) | assumption)
                                                      have q143 : x10_3 < (y131.length : Int) := of_decide_eq_true (by first | (with_reducible assumption) | assumption)
                                                      obtain ⟨ad143, e143, hx143_0⟩ := Kd.at_int (Kd.R_reads' HO_8.out).2.2 x10_3 p143 q143
                                                      obtain rfl : ad142 = ad143 := (by injection e143)
                                                      replace p143 := eq_true p143
                                                      replace q143 := eq_true q143
                                                      have p144 : 0 ≤ (a1 : Int) := of_decide_eq_true (by first | (with_reducible assumption) | assumption)
                                                      have q144 : a1 < (l0.length : Int) := of_decide_eq_true (by first | (with_reducible assumption) | assumption)
                                                      obtain ⟨ad144, A144_1, c144_1, e144, hx144_0, hx144_1, hl144_1, hi144_1⟩ := at_T50 HR0.out a1 p144 q144
                                                      cases e144
                                                      replace hx144_0 := (HB.out.cell (World.block_lt_of_cell? w _ hx144_0)).trans hx144_0
                                                      replace hx144_1 := (HB.out.cell (World.block_lt_of_cell? w _ hx144_1)).trans hx144_1
                                                      have HR144_1 := Aside0.mk hi144_1
                                                      have HC144_1 := Aside0.mk hl144_1
                                                      clear hi144_1 hl144_1
                                                      replace p144 := eq_true p144
                                                      replace q144 := eq_true q144
                                                      go_wp2
                                                      repeat (go_quiet (fail); try go_wp2)
                                                      go_meet
                                                      case rel => exact ⟨_, (decide ((rd y131 x10_3) ≥ (((rd_T50 l0 a1).f1).length : Int))), (by first | rfl | (simp; done) | (simp [*]; done)), H', ⟨by have := HJ3.out; have := HK2.out; have := HK3.out; have := HJ25.out; have := HJ34.out; have := HJ45.out; first | omega | exact Nat.le_refl _⟩, ⟨by (with_reducible repeat (first | apply Kd.R_alloc | apply Kd.R_drewN | apply Kd.R_drew)); exact HO_8.out⟩, ⟨by (with_reducible repeat (first | refine blk_drewN ?_ _ | refine blk_drew ?_ | refine blk_alloc ?_ _)); exact BK129.out⟩, ⟨by repeat (first | (with_reducible first | exact HB.out | apply below_alloc | apply pw_below_drewN | apply below_drew1 | refine below_set ?_ GE129.out) | exact HB.out)⟩⟩
                                                  · rw [if_neg c65] at H
                                                    exact absurd H (by simp)
                                                · rw [if_neg c64] at H
                                                  exact absurd H (by simp)
                                            · rw [if_neg c61] at H
                                              exact absurd H (by simp)
                                          · rw [if_neg c60] at H
                                            have c60b0 : ((bt t130 x10_3) == 116) = false := beq_eq_false_iff_ne.mpr c60
                                            have c60b1 : ((bt t130 x10_3) != 116) = true := bne_iff_ne.mpr c60
                                            as_aux_lemma =>
                                              have H' := Aside0.mk H
                                              clear H
                                              have p59 : 0 ≤ (x10_3 : Int) := of_decide_eq_true (by first | (with_reducible assumption) | assumption)
                                              have q59 : x10_3 < (t130.size : Int) := of_decide_eq_true (by first | (with_reducible assumption) | assumption)
                                              have hx59 := bt_at t130 x10_3
                                              replace p59 := eq_true p59
                                              replace q59 := eq_true q59
                                              go_wp2
                                              repeat (go_quiet (fail); try go_wp2)
                                              go_meet
                                              case rel => exact ⟨_, (false), (by first | rfl | (simp; done) | (simp [*]; done)), H', ⟨by have := HJ3.out; have := HK2.out; have := HK3.out; have := HJ25.out; have := HJ34.out; have := HJ45.out; first | omega | exact Nat.le_refl _⟩, ⟨by (with_reducible repeat (first | apply Kd.R_alloc | apply Kd.R_drewN | apply Kd.R_drew)); exact HO_8.out⟩, ⟨by (with_reducible repeat (first | refine blk_drewN ?_ _ | refine blk_drew ?_ | refine blk_alloc ?_ _)); exact BK129.out⟩, ⟨by repeat (first | (with_reducible first | exact HB.out | apply below_alloc | apply pw_below_drewN | apply below_drew1 | refine below_set ?_ GE129.out) | exact HB.out)⟩⟩
                                        · rw [if_neg c58] at H
                                          exact absurd H (by simp)
                                      · rw [if_neg c57] at H
                                        exact absurd H (by simp)
                                    case rest =>
                                      clear HC56
                                      try clear c1
                                      try clear p1
                                      try clear q1
                                      try clear hx1
                                      try clear c2
                                      try clear p2
                                      try clear q2
                                      try clear hx2
                                      try clear c3
                                      try clear p3
                                      try clear q3
                                      try clear hx3
                                      try clear c4
                                      try clear p4
                                      try clear q4
                                      try clear hx4
                                      try clear c5
                                      try clear p5
                                      try clear q5
                                      try clear hx5
                                      try clear c6
                                      try clear c6b0
                                      try clear p6
                                      try clear c9
                                      try clear p13
                                      try clear q13
                                      try clear hx13
                                      try clear c14
                                      try clear p14
                                      try clear q14
                                      try clear hx14
                                      try clear c16
                                      try clear c16b0
                                      try clear c17
                                      try clear c17b0
                                      try clear c18
                                      try clear c18b0
                                      try clear c19
                                      try clear p19
                                      try clear q19
                                      try clear hx19
                                      try clear c20
                                      try clear c20b0
                                      try clear c20b1
                                      try clear c21
                                      try clear c21b0
                                      try clear c22
                                      try clear c22b0
                                      try clear c22b1
                                      try clear c25
                                      try clear c25b0
                                      try clear c27
                                      try clear c27b0
                                      try clear c28
                                      try clear c28b0
                                      try clear p29
                                      try clear q29
                                      try clear hx29
                                      try clear c30
                                      try clear c30b0
                                      try clear c30b1
                                      try clear c31
                                      try clear c31b0
                                      try clear c32
                                      try clear c32b0
                                      try clear c36
                                      try clear c37
                                      try clear c37b0
                                      try clear c38
                                      try clear c38b0
                                      try clear p39
                                      try clear q39
                                      try clear hx39
                                      try clear c40
                                      try clear c40b0
                                      try clear c40b1
                                      try clear c41
                                      try clear c41b0
                                      try clear c42
                                      try clear c42b0
                                      try clear c45
                                      try clear c47
                                      try clear c47b0
                                      try clear c48
                                      try clear c48b0
                                      try clear p49
                                      try clear q49
                                      try clear hx49
                                      try clear c50
                                      try clear c50b0
                                      try clear c50b1
                                      try clear c51
                                      try clear c51b0
                                      try clear c52
                                      try clear c52b0
                                      try clear c55
                                      try clear c57
                                      try clear c57b0
                                      try clear c58
                                      try clear c58b0
                                      try clear p59
                                      try clear q59
                                      try clear hx59
                                      try clear c60
                                      try clear c60b0
                                      try clear c60b1
                                      try clear c61
                                      try clear c61b0
                                      try clear c62
                                      try clear c62b0
                                      try clear c64
                                      try clear c64b0
                                      try clear c65
                                      try clear c65b0
                                      try clear hcz11_0
                                      try clear hcz11_1
                                      try clear hcz11_2
                                      try clear hcz11_3
                                      try clear hcz11_4
                                      try clear hcz13_0
                                      try clear hcz13_1
                                      try clear hcz13_2
                                      try clear hcz13_3
                                      try clear hcz13_4
                                      try clear hcz7_0
                                      try clear hcz7_1
                                      try clear hcz7_2
                                      try clear hcz7_3
                                      try clear hcz7_4
                                      try clear hcz8_0
                                      try clear hcz8_1
                                      try clear hcz8_2
                                      try clear hcz8_3
                                      try clear hcz8_4
                                      try clear hfz11_0
                                      try clear hfz11_1
                                      try clear hfz11_2
                                      try clear hfz11_3
                                      try clear hfz11_4
                                      try clear hfz13_0
                                      try clear hfz13_1
                                      try clear hfz13_2
                                      try clear hfz13_3
                                      try clear hfz13_4
                                      try clear hfz7_0
                                      try clear hfz7_1
                                      try clear hfz7_2
                                      try clear hfz7_3
                                      try clear hfz7_4
                                      try clear hfz8_0
                                      try clear hfz8_1
                                      try clear hfz8_2
                                      try clear hfz8_3
                                      try clear hfz8_4
                                      try clear hx134_0
                                      try clear hx136_0
                                      try clear hx137_0
                                      try clear hx138_0
                                      try clear hx139_0
                                      try clear hx140_0
                                      try clear hx141_0
                                      try clear hx142_0
                                      try clear hx143_0
                                      try clear hx144_0
                                      try clear hx144_1
                                      try clear p1
                                      try clear p13
                                      try clear p134
                                      try clear p136
                                      try clear p137
                                      try clear p138
                                      try clear p139
                                      try clear p14
                                      try clear p140
                                      try clear p141
                                      try clear p142
                                      try clear p143
                                      try clear p144
                                      try clear p19
                                      try clear p2
                                      try clear p29
                                      try clear p3
                                      try clear p39
                                      try clear p4
                                      try clear p49
                                      try clear p59
                                      try clear p6
                                      try clear q1
                                      try clear q13
                                      try clear q134
                                      try clear q136
                                      try clear q137
                                      try clear q138
                                      try clear q139
                                      try clear q14
                                      try clear q140
                                      try clear q141
                                      try clear q142
                                      try clear q143
                                      try clear q144
                                      try clear q19
                                      try clear q2
                                      try clear q29
                                      try clear q3
                                      try clear q39
                                      try clear q4
                                      try clear q49
                                      try clear q59
                                      obtain ⟨kq, x108_55, rfl, HA, HJ55, HO_8, BK129, HB⟩ := hcut
                                      cases kq with
                                      | zero => exact absurd HA.out (by simp [haymowref03_instr.j6])
                                      | succ kj55 =>
                                        have H := HA.out
                                        clear HA
                                        simp only [haymowref03_instr.j6] at H
                                        by_cases c67 : x108_55 = true
                                        · subst c67
                                          have H1 : (some 6) = some r := by rw [if_pos rfl] at H; exact H
                                          clear H
                                          have H := H1
                                          clear H1
                                          as_aux_lemma =>
                                            obtain rfl := Option.some.inj H
                                            go_wp2
                                            repeat (go_quiet (fail); try go_wp2)
                                            go_ret
                                            exact ⟨by first | rfl | (simp [errW_none, errW_some] <;> rfl) | (simp [*, errW_none, errW_some] <;> rfl), by repeat (first | (with_reducible first | exact HB.out | apply below_alloc | apply pw_below_drewN | apply below_drew1 | refine below_set ?_ GE129.out) | exact HB.out)⟩
                                        · replace c67 := Bool.eq_false_iff.mpr c67
                                          subst c67
                                          have H1 : (if 0 ≤ x10_3 then (if x10_3 < (t130.size : Int) then (if (bt t130 x10_3) = 99 then (if x10_3 < (y131.length : Int) then (if (rd y131 x10_3) < 16 then (haymowref03_instr.j7 kj55 l0 a1 t130 y131 x10_3 true a2_0 a2_1 a2_2 a2_3 a2_4) else (haymowref03_instr.j7 kj55 l0 a1 t130 y131 x10_3 (decide ((rd y131 x10_3) > 2147483647)) a2_0 a2_1 a2_2 a2_3 a2_4)) else (none)) else (haymowref03_instr.j7 kj55 l0 a1 t130 y131 x10_3 false a2_0 a2_1 a2_2 a2_3 a2_4)) else (none)) else (none)) = some r := by rw [if_neg (show ¬ (false = true) by decide)] at H; exact H
                                          clear H
                                          have H := H1
                                          clear H1
                                          have HC68 := Aside0.mk H
                                          clear H
                                          go_upto_region 20 with (fail)
                                          repeat (go_quiet (fail); go_upto_region 20 with (fail))
                                          go_cut [133] (fun v133 wc => ∃ (kq : Nat) (x133_67 : Bool), v133 = .bool x133_67 ∧ Aside0 (haymowref03_instr.j7 kq l0 a1 t130 y131 x10_3 x133_67 a2_0 a2_1 a2_2 a2_3 a2_4 = some r) ∧ Aside0 (kq ≤ kj55) ∧ Aside0 (Kd.R (Kd.int .i64) 3 wc w.heap.size (fun _ => True) v132 y131) ∧ Aside0 (wc.heap[gb129]? = some (.cells #[.int .i64 a2_0, .int .i64 a2_1, .int .i64 a2_2, .int .i64 a2_3, .int .i64 a2_4] 58 (0, 0))) ∧ Aside0 (Below w.heap.size w wc))
                                          case first =>
                                            have H := HC68.out
                                            clear HC68
                                            by_cases c69 : 0 ≤ x10_3
                                            · rw [if_pos c69] at H
                                              have c69b0 : decide (0 ≤ x10_3) = true := decide_eq_true c69
                                              clear c69
                                              (first | rw [c69b0] | (simp only [i64_w, i32_w]; rw [c69b0]) | skip)
                                              by_cases c70 : x10_3 < (t130.size : Int)
                                              · rw [if_pos c70] at H
                                                have c70b0 : decide (x10_3 < (t130.size : Int)) = true := decide_eq_true c70
                                                clear c70
                                                by_cases c72 : (bt t130 x10_3) = 99
                                                · rw [if_pos c72] at H
                                                  have c72b0 : ((bt t130 x10_3) == 99) = true := beq_iff_eq.mpr c72
                                                  have c72b1 : ((bt t130 x10_3) != 99) = false := bne_eq_false_iff_eq.mpr c72
                                                  clear c72
                                                  by_cases c73 : x10_3 < (y131.length : Int)
                                                  · rw [if_pos c73] at H
                                                    have c73b0 : decide (x10_3 < (y131.length : Int)) = true := decide_eq_true c73
                                                    clear c73
                                                    by_cases c74 : (rd y131 x10_3) < 16
                                                    · rw [if_pos c74] at H
                                                      have c74b0 : decide ((rd y131 x10_3) < 16) = true := decide_eq_true c74
                                                      clear c74
                                                      as_aux_lemma =>
                                                        have H' := Aside0.mk H
                                                        clear H
                                                        have p71 : 0 ≤ (x10_3 : Int) := of_decide_eq_true (by first | (with_reducible assumption) | assumption)
                                                        have q71 : x10_3 < (t130.size : Int) := of_decide_eq_true (by first | (with_reducible assumption) | assumption)
                                                        have hx71 := bt_at t130 x10_3
                                                        replace p71 := eq_true p71
                                                        replace q71 := eq_true q71
                                                        obtain ⟨Ao75, co75, eo75⟩ := Kd.R_slice HO_8.out
                                                        subst eo75
                                                        have p145 : 0 ≤ (x10_3 : Int) := of_decide_eq_true (by first | (with_reducible assumption) | assumption)
                                                        have q145 : x10_3 < (y131.length : Int) := of_decide_eq_true (by first | (with_reducible assumption) | assumption)
                                                        obtain ⟨ad145, e145, hx145_0⟩ := Kd.at_int (Kd.R_reads' HO_8.out).2.2 x10_3 p145 q145
                                                        cases e145
                                                        replace p145 := eq_true p145
                                                        replace q145 := eq_true q145
                                                        go_wp2
                                                        repeat (go_quiet (fail); try go_wp2)
                                                        go_meet
                                                        case rel => exact ⟨_, (true), (by first | rfl | (simp; done) | (simp [*]; done)), H', ⟨by have := HJ3.out; have := HK2.out; have := HK3.out; have := HJ25.out; have := HJ34.out; have := HJ45.out; have := HJ55.out; first | omega | exact Nat.le_refl _⟩, ⟨by (with_reducible repeat (first | apply Kd.R_alloc | apply Kd.R_drewN | apply Kd.R_drew)); exact HO_8.out⟩, ⟨by (with_reducible repeat (first | refine blk_drewN ?_ _ | refine blk_drew ?_ | refine blk_alloc ?_ _)); exact BK129.out⟩, ⟨by repeat (first | (with_reducible first | exact HB.out | apply below_alloc | apply pw_below_drewN | apply below_drew1 | refine below_set ?_ GE129.out) | exact HB.out)⟩⟩
                                                    · rw [if_neg c74] at H
                                                      have c74b0 : decide ((rd y131 x10_3) < 16) = false := decide_eq_false c74
                                                      clear c74
                                                      as_aux_lemma =>
                                                        have H' := Aside0.mk H
                                                        clear H
                                                        have p71 : 0 ≤ (x10_3 : Int) := of_decide_eq_true (by first | (with_reducible assumption) | assumption)
                                                        have q71 : x10_3 < (t130.size : Int) := of_decide_eq_true (by first | (with_reducible assumption) | assumption)
                                                        have hx71 := bt_at t130 x10_3
                                                        replace p71 := eq_true p71
                                                        replace q71 := eq_true q71
                                                        obtain ⟨Ao76, co76, eo76⟩ := Kd.R_slice HO_8.out
                                                        subst eo76
                                                        have p145 : 0 ≤ (x10_3 : Int) := of_decide_eq_true (by first | (with_reducible assumption) | assumption)
                                                        have q145 : x10_3 < (y131.length : Int) := of_decide_eq_true (by first | (with_reducible assumption) | assumption)
                                                        obtain ⟨ad145, e145, hx145_0⟩ := Kd.at_int (Kd.R_reads' HO_8.out).2.2 x10_3 p145 q145
                                                        cases e145
                                                        replace p145 := eq_true p145
                                                        replace q145 := eq_true q145
                                                        have p146 : 0 ≤ (x10_3 : Int) := of_decide_eq_true (by first | (with_reducible assumption) | assumption)
                                                        have q146 : x10_3 < (y131.length : Int) := of_decide_eq_true (by first | (with_reducible assumption) | assumption)
                                                        obtain ⟨ad146, e146, hx146_0⟩ := Kd.at_int (Kd.R_reads' HO_8.out).2.2 x10_3 p146 q146
                                                        obtain rfl : ad145 = ad146 := (by injection e146)
                                                        replace p146 := eq_true p146
                                                        replace q146 := eq_true q146
                                                        go_wp2
                                                        repeat (go_quiet (fail); try go_wp2)
                                                        go_meet
                                                        case rel => exact ⟨_, (decide ((rd y131 x10_3) > 2147483647)), (by first | rfl | (simp; done) | (simp [*]; done)), H', ⟨by have := HJ3.out; have := HK2.out; have := HK3.out; have := HJ25.out; have := HJ34.out; have := HJ45.out; have := HJ55.out; first | omega | exact Nat.le_refl _⟩, ⟨by (with_reducible repeat (first | apply Kd.R_alloc | apply Kd.R_drewN | apply Kd.R_drew)); exact HO_8.out⟩, ⟨by (with_reducible repeat (first | refine blk_drewN ?_ _ | refine blk_drew ?_ | refine blk_alloc ?_ _)); exact BK129.out⟩, ⟨by repeat (first | (with_reducible first | exact HB.out | apply below_alloc | apply pw_below_drewN | apply below_drew1 | refine below_set ?_ GE129.out) | exact HB.out)⟩⟩
                                                  · rw [if_neg c73] at H
                                                    exact absurd H (by simp)
                                                · rw [if_neg c72] at H
                                                  have c72b0 : ((bt t130 x10_3) == 99) = false := beq_eq_false_iff_ne.mpr c72
                                                  have c72b1 : ((bt t130 x10_3) != 99) = true := bne_iff_ne.mpr c72
                                                  as_aux_lemma =>
                                                    have H' := Aside0.mk H
                                                    clear H
                                                    have p71 : 0 ≤ (x10_3 : Int) := of_decide_eq_true (by first | (with_reducible assumption) | assumption)
                                                    have q71 : x10_3 < (t130.size : Int) := of_decide_eq_true (by first | (with_reducible assumption) | assumption)
                                                    have hx71 := bt_at t130 x10_3
                                                    replace p71 := eq_true p71
                                                    replace q71 := eq_true q71
                                                    go_wp2
                                                    repeat (go_quiet (fail); try go_wp2)
                                                    go_meet
                                                    case rel => exact ⟨_, (false), (by first | rfl | (simp; done) | (simp [*]; done)), H', ⟨by have := HJ3.out; have := HK2.out; have := HK3.out; have := HJ25.out; have := HJ34.out; have := HJ45.out; have := HJ55.out; first | omega | exact Nat.le_refl _⟩, ⟨by (with_reducible repeat (first | apply Kd.R_alloc | apply Kd.R_drewN | apply Kd.R_drew)); exact HO_8.out⟩, ⟨by (with_reducible repeat (first | refine blk_drewN ?_ _ | refine blk_drew ?_ | refine blk_alloc ?_ _)); exact BK129.out⟩, ⟨by repeat (first | (with_reducible first | exact HB.out | apply below_alloc | apply pw_below_drewN | apply below_drew1 | refine below_set ?_ GE129.out) | exact HB.out)⟩⟩
                                              · rw [if_neg c70] at H
                                                exact absurd H (by simp)
                                            · rw [if_neg c69] at H
                                              exact absurd H (by simp)
                                          case rest =>
                                            clear HC68
                                            try clear c1
                                            try clear p1
                                            try clear q1
                                            try clear hx1
                                            try clear c2
                                            try clear p2
                                            try clear q2
                                            try clear hx2
                                            try clear c3
                                            try clear p3
                                            try clear q3
                                            try clear hx3
                                            try clear c4
                                            try clear p4
                                            try clear q4
                                            try clear hx4
                                            try clear c5
                                            try clear p5
                                            try clear q5
                                            try clear hx5
                                            try clear c6
                                            try clear c6b0
                                            try clear p6
                                            try clear c7
                                            try clear p7
                                            try clear q7
                                            try clear hx7
                                            try clear c9
                                            try clear p13
                                            try clear q13
                                            try clear hx13
                                            try clear c14
                                            try clear p14
                                            try clear q14
                                            try clear hx14
                                            try clear c16
                                            try clear c16b0
                                            try clear c17
                                            try clear c17b0
                                            try clear c18
                                            try clear c18b0
                                            try clear c19
                                            try clear p19
                                            try clear q19
                                            try clear hx19
                                            try clear c20
                                            try clear c20b0
                                            try clear c20b1
                                            try clear c21
                                            try clear c21b0
                                            try clear c22
                                            try clear c22b0
                                            try clear c22b1
                                            try clear c25
                                            try clear c25b0
                                            try clear c27
                                            try clear c27b0
                                            try clear c28
                                            try clear c28b0
                                            try clear p29
                                            try clear q29
                                            try clear hx29
                                            try clear c30
                                            try clear c30b0
                                            try clear c30b1
                                            try clear c31
                                            try clear c31b0
                                            try clear c32
                                            try clear c32b0
                                            try clear c36
                                            try clear c37
                                            try clear c37b0
                                            try clear c38
                                            try clear c38b0
                                            try clear p39
                                            try clear q39
                                            try clear hx39
                                            try clear c40
                                            try clear c40b0
                                            try clear c40b1
                                            try clear c41
                                            try clear c41b0
                                            try clear c42
                                            try clear c42b0
                                            try clear c45
                                            try clear c47
                                            try clear c47b0
                                            try clear c48
                                            try clear c48b0
                                            try clear p49
                                            try clear q49
                                            try clear hx49
                                            try clear c50
                                            try clear c50b0
                                            try clear c50b1
                                            try clear c51
                                            try clear c51b0
                                            try clear c52
                                            try clear c52b0
                                            try clear c55
                                            try clear c57
                                            try clear c57b0
                                            try clear c58
                                            try clear c58b0
                                            try clear p59
                                            try clear q59
                                            try clear hx59
                                            try clear c60
                                            try clear c60b0
                                            try clear c60b1
                                            try clear c61
                                            try clear c61b0
                                            try clear c62
                                            try clear c62b0
                                            try clear c64
                                            try clear c64b0
                                            try clear c65
                                            try clear c65b0
                                            try clear c67
                                            try clear c69
                                            try clear c69b0
                                            try clear c70
                                            try clear c70b0
                                            try clear p71
                                            try clear q71
                                            try clear hx71
                                            try clear c72
                                            try clear c72b0
                                            try clear c72b1
                                            try clear c73
                                            try clear c73b0
                                            try clear c74
                                            try clear c74b0
                                            try clear hcz11_0
                                            try clear hcz11_1
                                            try clear hcz11_2
                                            try clear hcz11_3
                                            try clear hcz11_4
                                            try clear hcz13_0
                                            try clear hcz13_1
                                            try clear hcz13_2
                                            try clear hcz13_3
                                            try clear hcz13_4
                                            try clear hcz7_0
                                            try clear hcz7_1
                                            try clear hcz7_2
                                            try clear hcz7_3
                                            try clear hcz7_4
                                            try clear hcz8_0
                                            try clear hcz8_1
                                            try clear hcz8_2
                                            try clear hcz8_3
                                            try clear hcz8_4
                                            try clear hfz11_0
                                            try clear hfz11_1
                                            try clear hfz11_2
                                            try clear hfz11_3
                                            try clear hfz11_4
                                            try clear hfz13_0
                                            try clear hfz13_1
                                            try clear hfz13_2
                                            try clear hfz13_3
                                            try clear hfz13_4
                                            try clear hfz7_0
                                            try clear hfz7_1
                                            try clear hfz7_2
                                            try clear hfz7_3
                                            try clear hfz7_4
                                            try clear hfz8_0
                                            try clear hfz8_1
                                            try clear hfz8_2
                                            try clear hfz8_3
                                            try clear hfz8_4
                                            try clear hx134_0
                                            try clear hx136_0
                                            try clear hx137_0
                                            try clear hx138_0
                                            try clear hx139_0
                                            try clear hx140_0
                                            try clear hx141_0
                                            try clear hx142_0
                                            try clear hx143_0
                                            try clear hx144_0
                                            try clear hx144_1
                                            try clear hx145_0
                                            try clear hx146_0
                                            try clear p1
                                            try clear p13
                                            try clear p134
                                            try clear p136
                                            try clear p137
                                            try clear p138
                                            try clear p139
                                            try clear p14
                                            try clear p140
                                            try clear p141
                                            try clear p142
                                            try clear p143
                                            try clear p144
                                            try clear p145
                                            try clear p146
                                            try clear p19
                                            try clear p2
                                            try clear p29
                                            try clear p3
                                            try clear p39
                                            try clear p4
                                            try clear p49
                                            try clear p5
                                            try clear p59
                                            try clear p6
                                            try clear p71
                                            try clear q1
                                            try clear q13
                                            try clear q134
                                            try clear q136
                                            try clear q137
                                            try clear q138
                                            try clear q139
                                            try clear q14
                                            try clear q140
                                            try clear q141
                                            try clear q142
                                            try clear q143
                                            try clear q144
                                            try clear q145
                                            try clear q146
                                            try clear q19
                                            try clear q2
                                            try clear q29
                                            try clear q3
                                            try clear q39
                                            try clear q4
                                            try clear q49
                                            try clear q5
                                            try clear q59
                                            try clear q71
                                            obtain ⟨kq, x133_67, rfl, HA, HJ67, HO_8, BK129, HB⟩ := hcut
                                            cases kq with
                                            | zero => exact absurd HA.out (by simp [haymowref03_instr.j7])
                                            | succ kj67 =>
                                              have H := HA.out
                                              clear HA
                                              simp only [haymowref03_instr.j7] at H
                                              by_cases c77 : x133_67 = true
                                              · subst c77
                                                have H1 : (some 6) = some r := by rw [if_pos rfl] at H; exact H
                                                clear H
                                                have H := H1
                                                clear H1
                                                as_aux_lemma =>
                                                  obtain rfl := Option.some.inj H
                                                  go_wp2
                                                  repeat (go_quiet (fail); try go_wp2)
                                                  go_ret
                                                  exact ⟨by first | rfl | (simp [errW_none, errW_some] <;> rfl) | (simp [*, errW_none, errW_some] <;> rfl), by repeat (first | (with_reducible first | exact HB.out | apply below_alloc | apply pw_below_drewN | apply below_drew1 | refine below_set ?_ GE129.out) | exact HB.out)⟩
                                              · replace c77 := Bool.eq_false_iff.mpr c77
                                                subst c77
                                                have H1 : (if 0 ≤ x10_3 then (if x10_3 < (t130.size : Int) then (if (bt t130 x10_3) = 110 then (if x10_3 < (y131.length : Int) then (if (rd y131 x10_3) < (-2147483648) then (some 6) else (if (rd y131 x10_3) > 2147483647 then (some 6) else (haymowref03_instr.l1 kj67 l0 a1 t130 y131 (wrap64 (x10_3 + 1)) a2_0 a2_1 a2_2 a2_3 a2_4))) else (none)) else (haymowref03_instr.l1 kj67 l0 a1 t130 y131 (wrap64 (x10_3 + 1)) a2_0 a2_1 a2_2 a2_3 a2_4)) else (none)) else (none)) = some r := by rw [if_neg (show ¬ (false = true) by decide)] at H; exact H
                                                clear H
                                                have H := H1
                                                clear H1
                                                by_cases c78 : 0 ≤ x10_3
                                                · rw [if_pos c78] at H
                                                  have c78b0 : decide (0 ≤ x10_3) = true := decide_eq_true c78
                                                  clear c78
                                                  by_cases c79 : x10_3 < (t130.size : Int)
                                                  · rw [if_pos c79] at H
                                                    have c79b0 : decide (x10_3 < (t130.size : Int)) = true := decide_eq_true c79
                                                    clear c79
                                                    by_cases c81 : (bt t130 x10_3) = 110
                                                    · rw [if_pos c81] at H
                                                      have c81b0 : ((bt t130 x10_3) == 110) = true := beq_iff_eq.mpr c81
                                                      have c81b1 : ((bt t130 x10_3) != 110) = false := bne_eq_false_iff_eq.mpr c81
                                                      clear c81
                                                      by_cases c82 : x10_3 < (y131.length : Int)
                                                      · rw [if_pos c82] at H
                                                        have c82b0 : decide (x10_3 < (y131.length : Int)) = true := decide_eq_true c82
                                                        clear c82
                                                        by_cases c83 : (rd y131 x10_3) < (-2147483648)
                                                        · rw [if_pos c83] at H
                                                          have c83b0 : decide ((rd y131 x10_3) < (-2147483648)) = true := decide_eq_true c83
                                                          clear c83
                                                          as_aux_lemma =>
                                                            obtain rfl := Option.some.inj H
                                                            have p80 : 0 ≤ (x10_3 : Int) := of_decide_eq_true (by first | (with_reducible assumption) | assumption)
                                                            have q80 : x10_3 < (t130.size : Int) := of_decide_eq_true (by first | (with_reducible assumption) | assumption)
                                                            have hx80 := bt_at t130 x10_3
                                                            replace p80 := eq_true p80
                                                            replace q80 := eq_true q80
                                                            obtain ⟨Ao84, co84, eo84⟩ := Kd.R_slice HO_8.out
                                                            subst eo84
                                                            have p147 : 0 ≤ (x10_3 : Int) := of_decide_eq_true (by first | (with_reducible assumption) | assumption)
                                                            have q147 : x10_3 < (y131.length : Int) := of_decide_eq_true (by first | (with_reducible assumption) | assumption)
                                                            obtain ⟨ad147, e147, hx147_0⟩ := Kd.at_int (Kd.R_reads' HO_8.out).2.2 x10_3 p147 q147
                                                            cases e147
                                                            replace p147 := eq_true p147
                                                            replace q147 := eq_true q147
                                                            go_wp2
                                                            repeat (go_quiet (fail); try go_wp2)
                                                            go_ret
                                                            exact ⟨by first | rfl | (simp [errW_none, errW_some] <;> rfl) | (simp [*, errW_none, errW_some] <;> rfl), by repeat (first | (with_reducible first | exact HB.out | apply below_alloc | apply pw_below_drewN | apply below_drew1 | refine below_set ?_ GE129.out) | exact HB.out)⟩
                                                        · rw [if_neg c83] at H
                                                          have c83b0 : decide ((rd y131 x10_3) < (-2147483648)) = false := decide_eq_false c83
                                                          clear c83
                                                          by_cases c85 : (rd y131 x10_3) > 2147483647
                                                          · rw [if_pos c85] at H
                                                            have c85b0 : decide (2147483647 < (rd y131 x10_3)) = true := decide_eq_true c85
                                                            clear c85
                                                            as_aux_lemma =>
                                                              obtain rfl := Option.some.inj H
                                                              have p80 : 0 ≤ (x10_3 : Int) := of_decide_eq_true (by first | (with_reducible assumption) | assumption)
                                                              have q80 : x10_3 < (t130.size : Int) := of_decide_eq_true (by first | (with_reducible assumption) | assumption)
                                                              have hx80 := bt_at t130 x10_3
                                                              replace p80 := eq_true p80
                                                              replace q80 := eq_true q80
                                                              obtain ⟨Ao86, co86, eo86⟩ := Kd.R_slice HO_8.out
                                                              subst eo86
                                                              have p147 : 0 ≤ (x10_3 : Int) := of_decide_eq_true (by first | (with_reducible assumption) | assumption)
                                                              have q147 : x10_3 < (y131.length : Int) := of_decide_eq_true (by first | (with_reducible assumption) | assumption)
                                                              obtain ⟨ad147, e147, hx147_0⟩ := Kd.at_int (Kd.R_reads' HO_8.out).2.2 x10_3 p147 q147
                                                              cases e147
                                                              replace p147 := eq_true p147
                                                              replace q147 := eq_true q147
                                                              have p148 : 0 ≤ (x10_3 : Int) := of_decide_eq_true (by first | (with_reducible assumption) | assumption)
                                                              have q148 : x10_3 < (y131.length : Int) := of_decide_eq_true (by first | (with_reducible assumption) | assumption)
                                                              obtain ⟨ad148, e148, hx148_0⟩ := Kd.at_int (Kd.R_reads' HO_8.out).2.2 x10_3 p148 q148
                                                              obtain rfl : ad147 = ad148 := (by injection e148)
                                                              replace p148 := eq_true p148
                                                              replace q148 := eq_true q148
                                                              go_wp2
                                                              repeat (go_quiet (fail); try go_wp2)
                                                              go_ret
                                                              exact ⟨by first | rfl | (simp [errW_none, errW_some] <;> rfl) | (simp [*, errW_none, errW_some] <;> rfl), by repeat (first | (with_reducible first | exact HB.out | apply below_alloc | apply pw_below_drewN | apply below_drew1 | refine below_set ?_ GE129.out) | exact HB.out)⟩
                                                          · rw [if_neg c85] at H
                                                            have c85b0 : decide (2147483647 < (rd y131 x10_3)) = false := decide_eq_false c85
                                                            clear c85
                                                            as_aux_lemma =>
                                                              have H' := Aside0.mk H
                                                              clear H
                                                              have p80 : 0 ≤ (x10_3 : Int) := of_decide_eq_true (by first | (with_reducible assumption) | assumption)
                                                              have q80 : x10_3 < (t130.size : Int) := of_decide_eq_true (by first | (with_reducible assumption) | assumption)
                                                              have hx80 := bt_at t130 x10_3
                                                              replace p80 := eq_true p80
                                                              replace q80 := eq_true q80
                                                              obtain ⟨Ao87, co87, eo87⟩ := Kd.R_slice HO_8.out
                                                              subst eo87
                                                              have p147 : 0 ≤ (x10_3 : Int) := of_decide_eq_true (by first | (with_reducible assumption) | assumption)
                                                              have q147 : x10_3 < (y131.length : Int) := of_decide_eq_true (by first | (with_reducible assumption) | assumption)
                                                              obtain ⟨ad147, e147, hx147_0⟩ := Kd.at_int (Kd.R_reads' HO_8.out).2.2 x10_3 p147 q147
                                                              cases e147
                                                              replace p147 := eq_true p147
                                                              replace q147 := eq_true q147
                                                              have p148 : 0 ≤ (x10_3 : Int) := of_decide_eq_true (by first | (with_reducible assumption) | assumption)
                                                              have q148 : x10_3 < (y131.length : Int) := of_decide_eq_true (by first | (with_reducible assumption) | assumption)
                                                              obtain ⟨ad148, e148, hx148_0⟩ := Kd.at_int (Kd.R_reads' HO_8.out).2.2 x10_3 p148 q148
                                                              obtain rfl : ad147 = ad148 := (by injection e148)
                                                              replace p148 := eq_true p148
                                                              replace q148 := eq_true q148
                                                              go_wp2
                                                              repeat (go_quiet (fail); try go_wp2)
                                                              go_roundg kj67
                                                              case measure => have := HJ3.out; have := HK2.out; have := HK3.out; have := HJ25.out; have := HJ34.out; have := HJ45.out; have := HJ55.out; have := HJ67.out; omega
                                                              case rel => exact ⟨(wrap64 (x10_3 + 1)), (by first | rfl | (simp; done) | (simp [*]; done)), H', ⟨by have := HJ3.out; have := HK2.out; have := HK3.out; have := HJ25.out; have := HJ34.out; have := HJ45.out; have := HJ55.out; have := HJ67.out; omega⟩, ⟨by (with_reducible repeat (first | apply Kd.R_alloc | apply Kd.R_drewN | apply Kd.R_drew)); exact HO_8.out⟩, ⟨by (with_reducible repeat (first | refine blk_drewN ?_ _ | refine blk_drew ?_ | refine blk_alloc ?_ _)); exact BK129.out⟩, ⟨by repeat (first | (with_reducible first | exact HB.out | apply below_alloc | apply pw_below_drewN | apply below_drew1 | refine below_set ?_ GE129.out) | exact HB.out)⟩⟩
                                                      · rw [if_neg c82] at H
                                                        exact absurd H (by simp)
                                                    · rw [if_neg c81] at H
                                                      have c81b0 : ((bt t130 x10_3) == 110) = false := beq_eq_false_iff_ne.mpr c81
                                                      have c81b1 : ((bt t130 x10_3) != 110) = true := bne_iff_ne.mpr c81
                                                      as_aux_lemma =>
                                                        have H' := Aside0.mk H
                                                        clear H
                                                        have p80 : 0 ≤ (x10_3 : Int) := of_decide_eq_true (by first | (with_reducible assumption) | assumption)
                                                        have q80 : x10_3 < (t130.size : Int) := of_decide_eq_true (by first | (with_reducible assumption) | assumption)
                                                        have hx80 := bt_at t130 x10_3
                                                        replace p80 := eq_true p80
                                                        replace q80 := eq_true q80
                                                        go_wp2
                                                        repeat (go_quiet (fail); try go_wp2)
                                                        go_roundg kj67
                                                        case measure => have := HJ3.out; have := HK2.out; have := HK3.out; have := HJ25.out; have := HJ34.out; have := HJ45.out; have := HJ55.out; have := HJ67.out; omega
                                                        case rel => exact ⟨(wrap64 (x10_3 + 1)), (by first | rfl | (simp; done) | (simp [*]; done)), H', ⟨by have := HJ3.out; have := HK2.out; have := HK3.out; have := HJ25.out; have := HJ34.out; have := HJ45.out; have := HJ55.out; have := HJ67.out; omega⟩, ⟨by (with_reducible repeat (first | apply Kd.R_alloc | apply Kd.R_drewN | apply Kd.R_drew)); exact HO_8.out⟩, ⟨by (with_reducible repeat (first | refine blk_drewN ?_ _ | refine blk_drew ?_ | refine blk_alloc ?_ _)); exact BK129.out⟩, ⟨by repeat (first | (with_reducible first | exact HB.out | apply below_alloc | apply pw_below_drewN | apply below_drew1 | refine below_set ?_ GE129.out) | exact HB.out)⟩⟩
                                                  · rw [if_neg c79] at H
                                                    exact absurd H (by simp)
                                                · rw [if_neg c78] at H
                                                  exact absurd H (by simp)
                  · rw [if_neg c25] at H
                    have c25b0 : decide (x10_3 < 4) = false := decide_eq_false c25
                    clear c25
                    by_cases c88 : 2 < (t130.size : Int)
                    · rw [if_pos c88] at H
                      have c88b0 : decide (2 < (t130.size : Int)) = true := decide_eq_true c88
                      have c88b1 : decide (2 < t130.size) = true := decide_eq_true (by omega)
                      clear c88
                      by_cases c90 : (bt t130 2) = 102
                      · rw [if_pos c90] at H
                        have c90b0 : ((bt t130 2) == 102) = true := beq_iff_eq.mpr c90
                        have c90b1 : ((bt t130 2) != 102) = false := bne_eq_false_iff_eq.mpr c90
                        clear c90
                        by_cases c91 : 0 ≤ a2_3
                        · rw [if_pos c91] at H
                          have c91b0 : decide (0 ≤ a2_3) = true := decide_eq_true c91
                          clear c91
                          by_cases c92 : a2_3 < (l0.length : Int)
                          · rw [if_pos c92] at H
                            have c92b0 : decide (a2_3 < (l0.length : Int)) = true := decide_eq_true c92
                            clear c92
                            by_cases c93 : ((rd_T50 l0 a2_3).f0) > (wrap64 (8 - a2_2))
                            · rw [if_pos c93] at H
                              have c93b0 : decide ((wrap64 (8 - a2_2)) < ((rd_T50 l0 a2_3).f0)) = true := decide_eq_true c93
                              clear c93
                              as_aux_lemma =>
                                obtain rfl := Option.some.inj H
                                have p89 : 0 ≤ (2 : Int) := (by omega)
                                have q89 : 2 < t130.size := (by have : (2 : Int) < (t130.size : Int) := of_decide_eq_true (by first | (with_reducible assumption) | assumption); omega)
                                have hx89 : ∀ h : 2 < t130.size, ((t130[2]'h).toNat : Int) = bt t130 2 := bt_at t130 2
                                clear p89
                                have qi89 : (2 < (t130.size : Int)) = True := eq_true (of_decide_eq_true (by first | (with_reducible assumption) | assumption))
                                replace q89 := eq_true q89
                                have hcz94_0 : wr.cell? ⟨gb129, 0, none⟩ = some (.int .i64 a2_0) := (blk_cell BK129.out 0).trans rfl
                                have hcz94_1 : wr.cell? ⟨gb129, 1, none⟩ = some (.int .i64 a2_1) := (blk_cell BK129.out 1).trans rfl
                                have hcz94_2 : wr.cell? ⟨gb129, 2, none⟩ = some (.int .i64 a2_2) := (blk_cell BK129.out 2).trans rfl
                                have hcz94_3 : wr.cell? ⟨gb129, 3, none⟩ = some (.int .i64 a2_3) := (blk_cell BK129.out 3).trans rfl
                                have hcz94_4 : wr.cell? ⟨gb129, 4, none⟩ = some (.int .i64 a2_4) := (blk_cell BK129.out 4).trans rfl
                                have hfz94_0 := blk_frozen BK129.out 0
                                have hfz94_1 := blk_frozen BK129.out 1
                                have hfz94_2 := blk_frozen BK129.out 2
                                have hfz94_3 := blk_frozen BK129.out 3
                                have hfz94_4 := blk_frozen BK129.out 4
                                have p135 : 0 ≤ (a2_3 : Int) := of_decide_eq_true (by first | (with_reducible assumption) | assumption)
                                have q135 : a2_3 < (l0.length : Int) := of_decide_eq_true (by first | (with_reducible assumption) | assumption)
                                obtain ⟨ad135, A135_1, c135_1, e135, hx135_0, hx135_1, hl135_1, hi135_1⟩ := at_T50 HR0.out a2_3 p135 q135
                                cases e135
                                replace hx135_0 := (HB.out.cell (World.block_lt_of_cell? w _ hx135_0)).trans hx135_0
                                replace hx135_1 := (HB.out.cell (World.block_lt_of_cell? w _ hx135_1)).trans hx135_1
                                have HR135_1 := Aside0.mk hi135_1
                                have HC135_1 := Aside0.mk hl135_1
                                clear hi135_1 hl135_1
                                replace p135 := eq_true p135
                                replace q135 := eq_true q135
                                go_wp2
                                repeat (go_quiet (fail); try go_wp2)
                                go_ret
                                exact ⟨by first | rfl | (simp [errW_none, errW_some] <;> rfl) | (simp [*, errW_none, errW_some] <;> rfl), by repeat (first | (with_reducible first | exact HB.out | apply below_alloc | apply pw_below_drewN | apply below_drew1 | refine below_set ?_ GE129.out) | exact HB.out)⟩
                            · rw [if_neg c93] at H
                              have c93b0 : decide ((wrap64 (8 - a2_2)) < ((rd_T50 l0 a2_3).f0)) = false := decide_eq_false c93
                              clear c93
                              as_aux_lemma =>
                                obtain rfl := Option.some.inj H
                                have p89 : 0 ≤ (2 : Int) := (by omega)
                                have q89 : 2 < t130.size := (by have : (2 : Int) < (t130.size : Int) := of_decide_eq_true (by first | (with_reducible assumption) | assumption); omega)
                                have hx89 : ∀ h : 2 < t130.size, ((t130[2]'h).toNat : Int) = bt t130 2 := bt_at t130 2
                                clear p89
                                have qi89 : (2 < (t130.size : Int)) = True := eq_true (of_decide_eq_true (by first | (with_reducible assumption) | assumption))
                                replace q89 := eq_true q89
                                have hcz95_0 : wr.cell? ⟨gb129, 0, none⟩ = some (.int .i64 a2_0) := (blk_cell BK129.out 0).trans rfl
                                have hcz95_1 : wr.cell? ⟨gb129, 1, none⟩ = some (.int .i64 a2_1) := (blk_cell BK129.out 1).trans rfl
                                have hcz95_2 : wr.cell? ⟨gb129, 2, none⟩ = some (.int .i64 a2_2) := (blk_cell BK129.out 2).trans rfl
                                have hcz95_3 : wr.cell? ⟨gb129, 3, none⟩ = some (.int .i64 a2_3) := (blk_cell BK129.out 3).trans rfl
                                have hcz95_4 : wr.cell? ⟨gb129, 4, none⟩ = some (.int .i64 a2_4) := (blk_cell BK129.out 4).trans rfl
                                have hfz95_0 := blk_frozen BK129.out 0
                                have hfz95_1 := blk_frozen BK129.out 1
                                have hfz95_2 := blk_frozen BK129.out 2
                                have hfz95_3 := blk_frozen BK129.out 3
                                have hfz95_4 := blk_frozen BK129.out 4
                                have p135 : 0 ≤ (a2_3 : Int) := of_decide_eq_true (by first | (with_reducible assumption) | assumption)
                                have q135 : a2_3 < (l0.length : Int) := of_decide_eq_true (by first | (with_reducible assumption) | assumption)
                                obtain ⟨ad135, A135_1, c135_1, e135, hx135_0, hx135_1, hl135_1, hi135_1⟩ := at_T50 HR0.out a2_3 p135 q135
                                cases e135
                                replace hx135_0 := (HB.out.cell (World.block_lt_of_cell? w _ hx135_0)).trans hx135_0
                                replace hx135_1 := (HB.out.cell (World.block_lt_of_cell? w _ hx135_1)).trans hx135_1
                                have HR135_1 := Aside0.mk hi135_1
                                have HC135_1 := Aside0.mk hl135_1
                                clear hi135_1 hl135_1
                                replace p135 := eq_true p135
                                replace q135 := eq_true q135
                                go_wp2
                                repeat (go_quiet (fail); try go_wp2)
                                go_ret
                                exact ⟨by first | rfl | (simp [errW_none, errW_some] <;> rfl) | (simp [*, errW_none, errW_some] <;> rfl), by repeat (first | (with_reducible first | exact HB.out | apply below_alloc | apply pw_below_drewN | apply below_drew1 | refine below_set ?_ GE129.out) | exact HB.out)⟩
                          · rw [if_neg c92] at H
                            exact absurd H (by simp)
                        · rw [if_neg c91] at H
                          exact absurd H (by simp)
                      · rw [if_neg c90] at H
                        have c90b0 : ((bt t130 2) == 102) = false := beq_eq_false_iff_ne.mpr c90
                        have c90b1 : ((bt t130 2) != 102) = true := bne_iff_ne.mpr c90
                        as_aux_lemma =>
                          obtain rfl := Option.some.inj H
                          have p89 : 0 ≤ (2 : Int) := (by omega)
                          have q89 : 2 < t130.size := (by have : (2 : Int) < (t130.size : Int) := of_decide_eq_true (by first | (with_reducible assumption) | assumption); omega)
                          have hx89 : ∀ h : 2 < t130.size, ((t130[2]'h).toNat : Int) = bt t130 2 := bt_at t130 2
                          clear p89
                          have qi89 : (2 < (t130.size : Int)) = True := eq_true (of_decide_eq_true (by first | (with_reducible assumption) | assumption))
                          replace q89 := eq_true q89
                          go_wp2
                          repeat (go_quiet (fail); try go_wp2)
                          go_ret
                          exact ⟨by first | rfl | (simp [errW_none, errW_some] <;> rfl) | (simp [*, errW_none, errW_some] <;> rfl), by repeat (first | (with_reducible first | exact HB.out | apply below_alloc | apply pw_below_drewN | apply below_drew1 | refine below_set ?_ GE129.out) | exact HB.out)⟩
                    · rw [if_neg c88] at H
                      exact absurd H (by simp)

end Go.Proofs.Ytkbbgkhanmmhpaa.H
