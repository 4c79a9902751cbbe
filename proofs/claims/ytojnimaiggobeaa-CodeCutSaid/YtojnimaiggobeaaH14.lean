-- made by this session's gen.py over the kit's print.py; not trusted: Lean checks it
import Derived.Test.YtojnimaiggobeaaH0
namespace Go.Proofs.Ytojnimaiggobeaa.H
open Go.RowKit Go.Proofs.YtojnimaiggobeaaW.PrintWords Go.Proofs.YtojnimaiggobeaaW.PrintLast Go.Proofs.YtojnimaiggobeaaW.PrintMore
attribute [local go_sem] max2_int min2_int max_two min_two max_three min_three max_four min_four   -- for this text's walks alone
set_option linter.unusedVariables false
set_option linter.unusedSimpArgs false

/-! ### haymowref02_Read: function 15 -/
mutual
def haymowref02_Read.j0 : Nat → List Int → Bool → Option ((List (S51)) × Int)
  | 0, _, _ => none
  | k + 1, x0, x19 => if x19 = true then (some (([] : List (S51)), 4)) else (if (x0.length : Int) < 2 then (some (([] : List (S51)), 2)) else (haymowref02_Read.l0 k x0 ([] : List (S51)) 2 0))
def haymowref02_Read.l0 : Nat → List Int → List (S51) → Int → Int → Option ((List (S51)) × Int)
  | 0, _, _, _, _ => none
  | k + 1, x0, x4, x5, x6 => if 1 < (x0.length : Int) then (if x6 < (wrap64 (rd x0 1)) then (if (wrap64 ((x0.length : Int) - x5)) < 2 then (some (([] : List (S51)), 2)) else (if 0 ≤ x5 then (if x5 < (x0.length : Int) then (if 0 ≤ (wrap64 (x5 + 1)) then (if (wrap64 (x5 + 1)) < (x0.length : Int) then (if (wrap64 ((x0.length : Int) - (wrap64 (x5 + 2)))) < (wrap64 (8 * (wrap64 (rd x0 (wrap64 (x5 + 1)))))) then (some (([] : List (S51)), 2)) else (haymowref02_Read.l1 k x0 x4 (wrap64 (x5 + 2)) x6 (wrap64 (rd x0 (wrap64 (x5 + 1)))) 0 (wrap64 (rd x0 x5)) ([] : List (S56)))) else (none)) else (none)) else (none)) else (none))) else (if x5 < (x0.length : Int) then (some (([] : List (S51)), 3)) else (some (x4, 0)))) else (none)
def haymowref02_Read.l1 : Nat → List Int → List (S51) → Int → Int → Int → Int → Int → List (S56) → Option ((List (S51)) × Int)
  | 0, _, _, _, _, _, _, _, _ => none
  | k + 1, x0, x4, x5, x6, x8, x9, x173000, x173001 => if x9 < x8 then (if 0 ≤ (wrap64 (x5 + 4)) then (if (wrap64 (x5 + 4)) < (x0.length : Int) then (if 0 ≤ (wrap64 (x5 + 5)) then (if (wrap64 (x5 + 5)) < (x0.length : Int) then (if 0 ≤ (wrap64 (x5 + 6)) then (if (wrap64 (x5 + 6)) < (x0.length : Int) then (if 0 ≤ (wrap64 (x5 + 7)) then (if (wrap64 (x5 + 7)) < (x0.length : Int) then (if (wrap64 ((wrap64 (rd x0 (wrap64 (x5 + 4)))) + (wrap64 (256 * (wrap64 ((wrap64 (rd x0 (wrap64 (x5 + 5)))) + (wrap64 (256 * (wrap64 ((wrap64 (rd x0 (wrap64 (x5 + 6)))) + (wrap64 (256 * (wrap64 (rd x0 (wrap64 (x5 + 7)))))))))))))))) ≥ 2147483648 then (if 0 ≤ x5 then (if x5 < (x0.length : Int) then (if 0 ≤ (wrap64 (x5 + 1)) then (if (wrap64 (x5 + 1)) < (x0.length : Int) then (if 0 ≤ (wrap64 (x5 + 2)) then (if (wrap64 (x5 + 2)) < (x0.length : Int) then (if 0 ≤ (wrap64 (x5 + 3)) then (if (wrap64 (x5 + 3)) < (x0.length : Int) then (if x173001.length < 3518437208883 then (haymowref02_Read.l1 k x0 x4 (wrap64 (x5 + 8)) x6 x8 (wrap64 (x9 + 1)) x173000 (x173001 ++ [(⟨wrap64 (rd x0 x5), wrap64 (rd x0 (wrap64 (x5 + 1))), wrap64 (rd x0 (wrap64 (x5 + 2))), wrap64 (rd x0 (wrap64 (x5 + 3))), wrap64 ((wrap64 ((wrap64 (rd x0 (wrap64 (x5 + 4)))) + (wrap64 (256 * (wrap64 ((wrap64 (rd x0 (wrap64 (x5 + 5)))) + (wrap64 (256 * (wrap64 ((wrap64 (rd x0 (wrap64 (x5 + 6)))) + (wrap64 (256 * (wrap64 (rd x0 (wrap64 (x5 + 7)))))))))))))))) - 4294967296)⟩ : S56)])) else (none)) else (none)) else (none)) else (none)) else (none)) else (none)) else (none)) else (none)) else (none)) else (if 0 ≤ x5 then (if x5 < (x0.length : Int) then (if 0 ≤ (wrap64 (x5 + 1)) then (if (wrap64 (x5 + 1)) < (x0.length : Int) then (if 0 ≤ (wrap64 (x5 + 2)) then (if (wrap64 (x5 + 2)) < (x0.length : Int) then (if 0 ≤ (wrap64 (x5 + 3)) then (if (wrap64 (x5 + 3)) < (x0.length : Int) then (if x173001.length < 3518437208883 then (haymowref02_Read.l1 k x0 x4 (wrap64 (x5 + 8)) x6 x8 (wrap64 (x9 + 1)) x173000 (x173001 ++ [(⟨wrap64 (rd x0 x5), wrap64 (rd x0 (wrap64 (x5 + 1))), wrap64 (rd x0 (wrap64 (x5 + 2))), wrap64 (rd x0 (wrap64 (x5 + 3))), wrap64 ((wrap64 (rd x0 (wrap64 (x5 + 4)))) + (wrap64 (256 * (wrap64 ((wrap64 (rd x0 (wrap64 (x5 + 5)))) + (wrap64 (256 * (wrap64 ((wrap64 (rd x0 (wrap64 (x5 + 6)))) + (wrap64 (256 * (wrap64 (rd x0 (wrap64 (x5 + 7)))))))))))))))⟩ : S56)])) else (none)) else (none)) else (none)) else (none)) else (none)) else (none)) else (none)) else (none)) else (none))) else (none)) else (none)) else (none)) else (none)) else (none)) else (none)) else (none)) else (none)) else (if x4.length < 4398046511104 then (haymowref02_Read.l0 k x0 (x4 ++ [(⟨x173000, x173001⟩ : S51)]) x5 (wrap64 (x6 + 1))) else (none))
end
def haymowref02_Read.f (k : Nat) (l0 : List Int) : Option ((List (S51)) × Int) := if (l0.length : Int) = 0 then (haymowref02_Read.j0 k l0 true) else (if 0 < (l0.length : Int) then (haymowref02_Read.j0 k l0 ((rd l0 0) != 72)) else (none))
theorem haymowref02_Read.mono_l : ∀ k, (∀ y0 y1, LeO (haymowref02_Read.j0 k y0 y1) (haymowref02_Read.j0 (k + 1) y0 y1)) ∧ (∀ y0 y1 y2 y3, LeO (haymowref02_Read.l0 k y0 y1 y2 y3) (haymowref02_Read.l0 (k + 1) y0 y1 y2 y3)) ∧ (∀ y0 y1 y2 y3 y4 y5 y6 y7, LeO (haymowref02_Read.l1 k y0 y1 y2 y3 y4 y5 y6 y7) (haymowref02_Read.l1 (k + 1) y0 y1 y2 y3 y4 y5 y6 y7))
  | 0 => ⟨fun _ _ r h => by simp [haymowref02_Read.j0] at h, fun _ _ _ _ r h => by simp [haymowref02_Read.l0] at h, fun _ _ _ _ _ _ _ _ r h => by simp [haymowref02_Read.l1] at h⟩
  | k + 1 => by
    obtain ⟨ih0, ih1, ih2⟩ := haymowref02_Read.mono_l k
    refine ⟨?_, ?_, ?_⟩
    · intro y0 y1
      unfold haymowref02_Read.j0
      repeat' first
      | (with_reducible exact ih0 _ _)
      | (with_reducible exact ih1 _ _ _ _)
      | (with_reducible exact ih2 _ _ _ _ _ _ _ _)
      | (with_reducible exact LeO.refl _)
      | (with_reducible exact LeO.none _)
      | (with_reducible refine LeO.ite ?_ ?_)
      | (with_reducible refine LeO.bind ?_ (fun _ => ?_))
      | exact ih0 _ _
      | exact ih1 _ _ _ _
      | exact ih2 _ _ _ _ _ _ _ _
      | exact LeO.none _
      | refine LeO.ite ?_ ?_
      | refine LeO.bind ?_ (fun _ => ?_)
    · intro y0 y1 y2 y3
      unfold haymowref02_Read.l0
      repeat' first
      | (with_reducible exact ih0 _ _)
      | (with_reducible exact ih1 _ _ _ _)
      | (with_reducible exact ih2 _ _ _ _ _ _ _ _)
      | (with_reducible exact LeO.refl _)
      | (with_reducible exact LeO.none _)
      | (with_reducible refine LeO.ite ?_ ?_)
      | (with_reducible refine LeO.bind ?_ (fun _ => ?_))
      | exact ih0 _ _
      | exact ih1 _ _ _ _
      | exact ih2 _ _ _ _ _ _ _ _
      | exact LeO.none _
      | refine LeO.ite ?_ ?_
      | refine LeO.bind ?_ (fun _ => ?_)
    · intro y0 y1 y2 y3 y4 y5 y6 y7
      unfold haymowref02_Read.l1
      repeat' first
      | (with_reducible exact ih0 _ _)
      | (with_reducible exact ih1 _ _ _ _)
      | (with_reducible exact ih2 _ _ _ _ _ _ _ _)
      | (with_reducible exact LeO.refl _)
      | (with_reducible exact LeO.none _)
      | (with_reducible refine LeO.ite ?_ ?_)
      | (with_reducible refine LeO.bind ?_ (fun _ => ?_))
      | exact ih0 _ _
      | exact ih1 _ _ _ _
      | exact ih2 _ _ _ _ _ _ _ _
      | exact LeO.none _
      | refine LeO.ite ?_ ?_
      | refine LeO.bind ?_ (fun _ => ?_)
theorem haymowref02_Read.mono : ∀ a0 k, LeO (haymowref02_Read.f k a0) (haymowref02_Read.f (k + 1) a0) := by
  intro a0 k
  obtain ⟨ih0, ih1, ih2⟩ := haymowref02_Read.mono_l k
  unfold haymowref02_Read.f
  repeat' first
      | (with_reducible exact ih0 _ _)
      | (with_reducible exact ih1 _ _ _ _)
      | (with_reducible exact ih2 _ _ _ _ _ _ _ _)
      | (with_reducible exact LeO.refl _)
      | (with_reducible exact LeO.none _)
      | (with_reducible refine LeO.ite ?_ ?_)
      | (with_reducible refine LeO.bind ?_ (fun _ => ?_))
      | exact ih0 _ _
      | exact ih1 _ _ _ _
      | exact ih2 _ _ _ _ _ _ _ _
      | exact LeO.none _
      | refine LeO.ite ?_ ?_
      | refine LeO.bind ?_ (fun _ => ?_)
def haymowref02_Read.T20 : Bool × List (List Nat × List Nat) := (true, [([], []), ([], []), ([1], [1]), ([0, 2], [0, 2]), ([3], [3]), ([4], [4]), ([], []), ([], []), ([7], [7]), ([6, 8], [6, 8]), ([9], [9]), ([10], [10]), ([], []), ([], []), ([13], [13]), ([12, 14], [12, 14]), ([15], [15]), ([16], [16]), ([], []), ([], []), ([19], [19]), ([18, 20], [18, 20]), ([21], [21]), ([22], [22]), ([23], [23]), ([17, 24], [17, 24]), ([25], [25]), ([11, 26], [11, 26]), ([27], [27]), ([5, 28], [5, 28]), ([29, 0, 1, 2, 3, 4, 5, 6, 7, 8, 9, 10, 11, 12, 13, 14, 15, 16, 17, 18, 19, 20, 21, 22, 23, 24, 25, 26, 27, 28, 29], [29])])
def haymowref02_Read.B20 : List Nat := [0, 0, 2, 7, 15, 31, 0, 0, 128, 448, 960, 1984, 0, 0, 8192, 28672, 61440, 126976, 0, 0, 524288, 1835008, 3932160, 8126464, 16515072, 33550336, 67104768, 134217664, 268435392, 536870911, 1073741823]
theorem haymowref02_Read.tab20 : rtab .any (opsOf Try.f15 20) = haymowref02_Read.T20 := by kernel_rfl
theorem haymowref02_Read.bits20 : waitsOk haymowref02_Read.T20.2 haymowref02_Read.B20 = true := by kernel_rfl
def haymowref02_Read.T23 : Bool × List (List Nat × List Nat) := (true, [([], []), ([0], [0]), ([], []), ([], []), ([2, 3], [2, 3]), ([4], [4]), ([5], [5]), ([], []), ([], []), ([8], [8]), ([7, 9], [7, 9]), ([10], [10]), ([11], [11]), ([], []), ([], []), ([14], [14]), ([13, 15], [13, 15]), ([16], [16]), ([17], [17]), ([], []), ([], []), ([20], [20]), ([19, 21], [19, 21]), ([22], [22]), ([23], [23]), ([], []), ([6, 12, 18, 24, 25], [6, 12, 18, 24, 25]), ([26], [26]), ([1, 27], [1, 27]), ([0, 1, 2, 3, 4, 5, 6, 7, 8, 9, 10, 11, 12, 13, 14, 15, 16, 17, 18, 19, 20, 21, 22, 23, 24, 25, 26, 27, 28], []), ([29, 28, 28, 0, 1, 2, 3, 4, 5, 6, 7, 8, 9, 10, 11, 12, 13, 14, 15, 16, 17, 18, 19, 20, 21, 22, 23, 24, 25, 26, 27, 28], [28, 29])])
def haymowref02_Read.B23 : List Nat := [0, 1, 0, 0, 12, 28, 60, 0, 0, 256, 896, 1920, 3968, 0, 0, 16384, 57344, 122880, 253952, 0, 0, 1048576, 3670016, 7864320, 16252928, 0, 67108860, 134217724, 268435455, 536870911, 1073741823]
theorem haymowref02_Read.tab23 : rtab .any (opsOf Try.f15 23) = haymowref02_Read.T23 := by kernel_rfl
theorem haymowref02_Read.bits23 : waitsOk haymowref02_Read.T23.2 haymowref02_Read.B23 = true := by kernel_rfl
set_option maxHeartbeats 8000000 in
set_option maxRecDepth 100000 in
theorem haymowref02_Read.calls (k : Nat) (A0 : Option Addr) (c0 : Nat) (l0 : List Int) (r1 : List (S51)) (r2 : Int) (w : World) (hr0 : Kd.C (Kd.int .u8) w A0 l0.length l0) (hc0 : l0.length ≤ c0) (h : haymowref02_Read.f k l0 = some (r1, r2)) :
    Calls Try.prog 15 #[.slice A0 l0.length c0] w fun e w' => ∃ v0_ : Value, e = .returned (.tuple #[v0_, .int .i64 r2]) ∧ Kd.S k51 51 w' w.heap.size (fun _ => True) v0_ r1 ∧ Below w.heap.size w w' := by
  have hu51 := Try.underlying51
  have hu56 := Try.underlying56
  have HR0 := Aside0.mk hr0
  have HC0 := Aside0.mk hc0
  clear hr0 hc0
  have HB := Aside0.mk (Below.refl w.heap.size w)
  have H : (if (l0.length : Int) = 0 then (haymowref02_Read.j0 k l0 true) else (if 0 < (l0.length : Int) then (haymowref02_Read.j0 k l0 ((rd l0 0) != 72)) else (none))) = some (r1, r2) := h
  clear h
  have HC2 := Aside0.mk H
  clear H
  go_enter Try.func15, Try.ntmps15
  go_upto_region 1 with (fail)
  go_cut [19] (fun v19 wc => ∃ (kq : Nat) (x19_1 : Bool), v19 = .bool x19_1 ∧ Aside0 (haymowref02_Read.j0 kq l0 x19_1 = some (r1, r2)) ∧ Aside0 (kq ≤ k) ∧ Aside0 (Below w.heap.size w wc))
  case first =>
    have H := HC2.out
    clear HC2
    by_cases c3 : (l0.length : Int) = 0
    · rw [if_pos c3] at H
      have c3b0 : ((l0.length : Int) == 0) = true := beq_iff_eq.mpr c3
      have c3b1 : ((l0.length : Int) != 0) = false := bne_eq_false_iff_eq.mpr c3
      clear c3
      (first | rw [c3b0] | (simp only [i64_w, i32_w]; rw [c3b0]) | skip)
      have H' := Aside0.mk H
      clear H
      go_wp2
      go_meet
      case rel => exact ⟨_, (true), (by first | rfl | (simp; done) | (simp [*]; done)), H', ⟨by first | omega | exact Nat.le_refl _⟩, ⟨by repeat (first | (with_reducible first | exact HB.out | apply below_alloc | apply pw_below_drewN | apply below_drew1) | exact HB.out)⟩⟩
    · rw [if_neg c3] at H
      have c3b0 : ((l0.length : Int) == 0) = false := beq_eq_false_iff_ne.mpr c3
      have c3b1 : ((l0.length : Int) != 0) = true := bne_iff_ne.mpr c3
      have c3b2 : ¬ (l0 = []) := fun h_ => c3 (by rw [h_]; rfl)
      (first | rw [c3b0] | (simp only [i64_w, i32_w]; rw [c3b0]) | skip)
      by_cases c4 : 0 < (l0.length : Int)
      · rw [if_pos c4] at H
        have c4b0 : decide (0 < (l0.length : Int)) = true := decide_eq_true c4
        have c4b1 : decide (0 < l0.length) = true := decide_eq_true (by omega)
        clear c4
        have H' := Aside0.mk H
        clear H
        have p169 : 0 ≤ (0 : Int) := (by omega)
        have q169 : 0 < (l0.length : Int) := of_decide_eq_true (by first | (with_reducible assumption) | assumption)
        obtain ⟨ad169, e169, hx169_0⟩ := Kd.at_int HR0.out 0 p169 q169
        cases e169
        have qi169 : (0 < l0.length) = True := eq_true (by omega)
        (try rw [show ((0 : Int)).toNat = 0 from rfl] at hx169_0)
        (try rw [Addr.add_zero'] at hx169_0)
        replace hx169_0 := (HB.out.cell (World.block_lt_of_cell? w _ hx169_0)).trans hx169_0
        replace p169 := eq_true p169
        replace q169 := eq_true q169
        go_wp2
        go_meet
        case rel => exact ⟨_, (((rd l0 0) != 72)), (by first | rfl | (simp; done) | (simp [*]; done)), H', ⟨by first | omega | exact Nat.le_refl _⟩, ⟨by repeat (first | (with_reducible first | exact HB.out | apply below_alloc | apply pw_below_drewN | apply below_drew1) | exact HB.out)⟩⟩
      · rw [if_neg c4] at H
        exact absurd H (by simp)
  case rest =>
    clear HC2
    try clear c1
    try clear p1
    try clear q1
    try clear hx1
    try clear qi1
    try clear p2
    try clear c3
    try clear c3b0
    try clear c3b1
    try clear c3b2
    try clear c4
    try clear c4b0
    try clear c4b1
    try clear hx169_0
    try clear p169
    try clear q169
    obtain ⟨kq, x19_1, rfl, HA, HJ1, HB⟩ := hcut
    cases kq with
    | zero => exact absurd HA.out (by simp [haymowref02_Read.j0])
    | succ kj1 =>
      have H := HA.out
      clear HA
      simp only [haymowref02_Read.j0] at H
      by_cases c5 : x19_1 = true
      · subst c5
        have H1 : (some (([] : List (S51)), 4)) = some (r1, r2) := by rw [if_pos rfl] at H; exact H
        clear H
        have H := H1
        clear H1
        simp only [Option.some.injEq, Prod.mk.injEq] at H
        obtain ⟨rfl, rfl⟩ := H
        go_wp2
        go_ret2
        exact ⟨_, by first | rfl | (simp [errW_none, errW_some] <;> rfl) | (simp [*, errW_none, errW_some] <;> rfl), by first | exact Kd.S_nil _ _ _ _ _ | exact Kd.N_nil _ _ _ _ _ | exact Kd.V_nil _ _ _ _ _ | exact Kd.Q_nil _ _ _ _ _ | exact Kd.R_nil _ _ _ _ _, by repeat (first | (with_reducible first | exact HB.out | apply below_alloc | apply pw_below_drewN | apply below_drew1) | exact HB.out)⟩
      · replace c5 := Bool.eq_false_iff.mpr c5
        subst c5
        have H1 : (if (l0.length : Int) < 2 then (some (([] : List (S51)), 2)) else (haymowref02_Read.l0 kj1 l0 ([] : List (S51)) 2 0)) = some (r1, r2) := by rw [if_neg (show ¬ (false = true) by decide)] at H; exact H
        clear H
        have H := H1
        clear H1
        by_cases c6 : (l0.length : Int) < 2
        · rw [if_pos c6] at H
          have c6b0 : decide ((l0.length : Int) < 2) = true := decide_eq_true c6
          have c6b1 : decide (l0.length < 2) = true := decide_eq_true (by omega)
          clear c6
          simp only [Option.some.injEq, Prod.mk.injEq] at H
          obtain ⟨rfl, rfl⟩ := H
          go_wp2
          go_ret2
          exact ⟨_, by first | rfl | (simp [errW_none, errW_some] <;> rfl) | (simp [*, errW_none, errW_some] <;> rfl), by first | exact Kd.S_nil _ _ _ _ _ | exact Kd.N_nil _ _ _ _ _ | exact Kd.V_nil _ _ _ _ _ | exact Kd.Q_nil _ _ _ _ _ | exact Kd.R_nil _ _ _ _ _, by repeat (first | (with_reducible first | exact HB.out | apply below_alloc | apply pw_below_drewN | apply below_drew1) | exact HB.out)⟩
        · rw [if_neg c6] at H
          have c6b0 : decide ((l0.length : Int) < 2) = false := decide_eq_false c6
          have c6b1 : decide (l0.length < 2) = false := decide_eq_false (by omega)
          clear c6
          have H' := Aside0.mk H
          clear H
          go_wp2
          go_loopg [4, 5, 6] kj1 (fun kq v4 v5 v6 w' => ∃ (x4_2 : List (S51)) (x5_2 : Int) (x6_2 : Int), v5 = .int .i64 x5_2 ∧ v6 = .int .i64 x6_2 ∧ Aside0 (haymowref02_Read.l0 kq l0 x4_2 x5_2 x6_2 = some (r1, r2)) ∧ Aside0 (kq ≤ kj1) ∧ Aside0 (Kd.S k51 51 w' w.heap.size (fun _ => True) v4 x4_2) ∧ Aside0 (Below w.heap.size w w'))
          case atStart => exact ⟨(([] : List (S51))), (2), (0), (by first | rfl | (simp; done) | (simp [*]; done)), (by first | rfl | (simp; done) | (simp [*]; done)), H', ⟨Nat.le_refl _⟩, ⟨by first | exact Kd.S_nil _ _ _ _ _ | exact Kd.N_nil _ _ _ _ _ | exact Kd.V_nil _ _ _ _ _ | exact Kd.Q_nil _ _ _ _ _ | exact Kd.R_nil _ _ _ _ _⟩, ⟨by repeat (first | (with_reducible first | exact HB.out | apply below_alloc | apply pw_below_drewN | apply below_drew1) | exact HB.out)⟩⟩
          case round =>
            clear H'
            try clear c1
            try clear p1
            try clear q1
            try clear hx1
            try clear qi1
            try clear p2
            try clear c3
            try clear c3b0
            try clear c3b1
            try clear c3b2
            try clear c4
            try clear c4b0
            try clear c4b1
            try clear c5
            try clear c6
            try clear c6b0
            try clear c6b1
            try clear hx169_0
            try clear p1
            try clear p169
            try clear p2
            try clear q1
            try clear q169
            obtain ⟨x4_2, x5_2, x6_2, rfl, rfl, HA, HK2, HO_4, HB⟩ := hrel
            cases gk with
            | zero => exact absurd HA.out (by simp [haymowref02_Read.l0])
            | succ k2 =>
              have H := HA.out
              clear HA
              simp only [haymowref02_Read.l0] at H
              by_cases c7 : 1 < (l0.length : Int)
              · rw [if_pos c7] at H
                have c7b0 : decide (1 < (l0.length : Int)) = true := decide_eq_true c7
                have c7b1 : decide (1 < l0.length) = true := decide_eq_true (by omega)
                clear c7
                by_cases c8 : x6_2 < (wrap64 (rd l0 1))
                · rw [if_pos c8] at H
                  have c8b0 : decide (x6_2 < (wrap64 (rd l0 1))) = true := decide_eq_true c8
                  clear c8
                  by_cases c9 : (wrap64 ((l0.length : Int) - x5_2)) < 2
                  · rw [if_pos c9] at H
                    have c9b0 : decide ((wrap64 ((l0.length : Int) - x5_2)) < 2) = true := decide_eq_true c9
                    clear c9
                    simp only [Option.some.injEq, Prod.mk.injEq] at H
                    obtain ⟨rfl, rfl⟩ := H
                    have p170 : 0 ≤ (1 : Int) := (by omega)
                    have q170 : 1 < (l0.length : Int) := of_decide_eq_true (by first | (with_reducible assumption) | assumption)
                    obtain ⟨ad170, e170, hx170_0⟩ := Kd.at_int HR0.out 1 p170 q170
                    cases e170
                    (try simp only [show (1 : Int).toNat = 1 from rfl, Nat.reduceMul, Nat.reduceEqDiff, Go.Addr.add, ↓reduceIte] at hx170_0)
                    have qi170 : (1 < l0.length) = True := eq_true (by omega)
                    (try rw [show ((1 : Int)).toNat = 1 from rfl] at hx170_0)
                    replace hx170_0 := (HB.out.cell (World.block_lt_of_cell? w _ hx170_0)).trans hx170_0
                    replace p170 := eq_true p170
                    replace q170 := eq_true q170
                    go_wp2
                    go_ret2
                    exact ⟨_, by first | rfl | (simp [errW_none, errW_some] <;> rfl) | (simp [*, errW_none, errW_some] <;> rfl), by first | exact Kd.S_nil _ _ _ _ _ | exact Kd.N_nil _ _ _ _ _ | exact Kd.V_nil _ _ _ _ _ | exact Kd.Q_nil _ _ _ _ _ | exact Kd.R_nil _ _ _ _ _, by repeat (first | (with_reducible first | exact HB.out | apply below_alloc | apply pw_below_drewN | apply below_drew1) | exact HB.out)⟩
                  · rw [if_neg c9] at H
                    have c9b0 : decide ((wrap64 ((l0.length : Int) - x5_2)) < 2) = false := decide_eq_false c9
                    clear c9
                    by_cases c10 : 0 ≤ x5_2
                    · rw [if_pos c10] at H
                      have c10b0 : decide (0 ≤ x5_2) = true := decide_eq_true c10
                      clear c10
                      by_cases c11 : x5_2 < (l0.length : Int)
                      · rw [if_pos c11] at H
                        have c11b0 : decide (x5_2 < (l0.length : Int)) = true := decide_eq_true c11
                        clear c11
                        obtain ⟨ji12, hji12⟩ : ∃ j_ : Int, (wrap64 (x5_2 + 1)) = j_ := ⟨_, rfl⟩
                        replace H : (if 0 ≤ (ji12) then (if (ji12) < (l0.length : Int) then (if (wrap64 ((l0.length : Int) - (wrap64 (x5_2 + 2)))) < (wrap64 (8 * (wrap64 (rd l0 (ji12))))) then (some (([] : List (S51)), 2)) else (haymowref02_Read.l1 k2 l0 x4_2 (wrap64 (x5_2 + 2)) x6_2 (wrap64 (rd l0 (ji12))) 0 (wrap64 (rd l0 x5_2)) ([] : List (S56)))) else (none)) else (none)) = some (r1, r2) := by first | (rw [hji12] at H; exact H) | (simp only [hji12] at H ⊢; exact H)
                        have hji12w : (IntKind.i64.wrap (x5_2 + 1)) = ji12 := (i64_w _).trans hji12
                        by_cases c13 : 0 ≤ (ji12)
                        · rw [if_pos c13] at H
                          have c13b0 : decide (0 ≤ (ji12)) = true := decide_eq_true c13
                          clear c13
                          by_cases c14 : (ji12) < (l0.length : Int)
                          · rw [if_pos c14] at H
                            have c14b0 : decide ((ji12) < (l0.length : Int)) = true := decide_eq_true c14
                            clear c14
                            by_cases c15 : (wrap64 ((l0.length : Int) - (wrap64 (x5_2 + 2)))) < (wrap64 (8 * (wrap64 (rd l0 (ji12)))))
                            · rw [if_pos c15] at H
                              have c15b0 : decide ((wrap64 ((l0.length : Int) - (wrap64 (x5_2 + 2)))) < (wrap64 (8 * (wrap64 (rd l0 (ji12)))))) = true := decide_eq_true c15
                              clear c15
                              simp only [Option.some.injEq, Prod.mk.injEq] at H
                              obtain ⟨rfl, rfl⟩ := H
                              have p170 : 0 ≤ (1 : Int) := (by omega)
                              have q170 : 1 < (l0.length : Int) := of_decide_eq_true (by first | (with_reducible assumption) | assumption)
                              obtain ⟨ad170, e170, hx170_0⟩ := Kd.at_int HR0.out 1 p170 q170
                              cases e170
                              (try simp only [show (1 : Int).toNat = 1 from rfl, Nat.reduceMul, Nat.reduceEqDiff, Go.Addr.add, ↓reduceIte] at hx170_0)
                              have qi170 : (1 < l0.length) = True := eq_true (by omega)
                              (try rw [show ((1 : Int)).toNat = 1 from rfl] at hx170_0)
                              replace hx170_0 := (HB.out.cell (World.block_lt_of_cell? w _ hx170_0)).trans hx170_0
                              replace p170 := eq_true p170
                              replace q170 := eq_true q170
                              have p171 : 0 ≤ (x5_2 : Int) := of_decide_eq_true (by first | (with_reducible assumption) | assumption)
                              have q171 : x5_2 < (l0.length : Int) := of_decide_eq_true (by first | (with_reducible assumption) | assumption)
                              obtain ⟨ad171, e171, hx171_0⟩ := Kd.at_int HR0.out x5_2 p171 q171
                              obtain rfl : ad170 = ad171 := (by injection e171)
                              replace hx171_0 := (HB.out.cell (World.block_lt_of_cell? w _ hx171_0)).trans hx171_0
                              replace p171 := eq_true p171
                              replace q171 := eq_true q171
                              go_wp2_with (first | ((with_reducible refine gate_dst (N := 7) rfl ?_); refine box_event ?hg (N := 7) ?hd (cs := #[.int .i64 0, .slice none 0 0]) (t := 51) ?hr ?_; (case hd => rfl); (case hg => rfl); (case hr => first | (go_simp; done) | (go_simp; rfl)); intro gb172 hg w16 hbox hb; have n0_ := Aside0.mk (Kd.S_below (Kd.S_elderB (by (with_reducible repeat (first | apply Kd.S_alloc | apply Kd.S_drewN | apply Kd.S_drew)); exact HO_4.out) gb172 (Nat.le_of_eq hg.symm)) hb); have n1_ := Aside0.mk (below_step (by repeat (first | (with_reducible first | exact HB.out | apply below_alloc | apply pw_below_drewN | apply below_drew1) | exact HB.out)) hb); have n2_ := Aside0.mk (hbox); have n3_ := Aside0.mk ((by rw [hg]; exact (below_size (by repeat (first | (with_reducible first | exact HB.out | apply below_alloc | apply pw_below_drewN | apply below_drew1) | exact HB.out))) : w.heap.size ≤ gb172)); have n4_ := Aside0.mk ((by rw [hg]; exact (below_size (by repeat (first | (with_reducible first | exact HB.out | apply below_alloc | apply pw_below_drewN | apply below_drew1) | exact HB.out))) : w.heap.size ≤ gb172)); clear HO_4; clear HB; have HO_4 := n0_; have HB := n1_; have BK172 := n2_; have GW172 := n3_; have GE172 := n4_; clear n0_ n1_ n2_ n3_ n4_; clear hb hbox hg; have hcz17_0 : w16.cell? ⟨gb172, 0, none⟩ = some (.int .i64 0) := (blk_cell BK172.out 0).trans rfl; have hcz17_1 : w16.cell? ⟨gb172, 1, none⟩ = some (.slice none 0 0) := (blk_cell BK172.out 1).trans rfl; have hfz17_0 := blk_frozen BK172.out 0; have hfz17_1 := blk_frozen BK172.out 1; have p173 : 0 ≤ ((ji12) : Int) := of_decide_eq_true (by first | (with_reducible assumption) | assumption); have q173 : (ji12) < (l0.length : Int) := of_decide_eq_true (by first | (with_reducible assumption) | assumption); obtain ⟨ad173, e173, hx173_0⟩ := Kd.at_int HR0.out (ji12) p173 q173; obtain rfl : ad170 = ad173 := (by injection e173); have hn173_0 : ad170.block ≠ gb172 := Nat.ne_of_lt (Nat.lt_of_lt_of_le (by have := World.block_lt_of_cell? _ _ hx173_0; first | rwa [add_block] at this | exact this) GW172.out); have hn173_1 : ad170.block ≠ gb172 := Nat.ne_of_lt (Nat.lt_of_lt_of_le (by have := World.block_lt_of_cell? _ _ hx173_0; first | rwa [add_block] at this | exact this) GW172.out); replace hx173_0 := (HB.out.cell (World.block_lt_of_cell? w _ hx173_0)).trans hx173_0; replace hx173_0 := (cell_far (p := ⟨gb172, 0, none⟩) (by first | (rw [add_block]; exact hn173_0) | (show (Addr.add _ _).block ≠ _; rw [add_block]; exact hn173_0) | exact hn173_0) (.int .i64 (wrap64 (rd l0 x5_2)))).trans hx173_0; replace hx173_0 := (cell_far (p := ⟨gb172, 1, none⟩) (by first | (rw [add_block]; exact hn173_1) | (show (Addr.add _ _).block ≠ _; rw [add_block]; exact hn173_1) | exact hn173_1) (.slice none 0 0)).trans hx173_0; clear hn173_0; clear hn173_1; replace p173 := eq_true p173; replace q173 := eq_true q173))
                              go_ret2
                              exact ⟨_, by first | rfl | (simp [errW_none, errW_some] <;> rfl) | (simp only [← hji12]; first | rfl | (simp [errW_none, errW_some] <;> rfl)) | (simp [*, errW_none, errW_some] <;> rfl), by first | exact Kd.S_nil _ _ _ _ _ | exact Kd.N_nil _ _ _ _ _ | exact Kd.V_nil _ _ _ _ _ | exact Kd.Q_nil _ _ _ _ _ | exact Kd.R_nil _ _ _ _ _, by repeat (first | (with_reducible first | exact HB.out | apply below_alloc | apply pw_below_drewN | apply below_drew1 | refine below_set ?_ GE172.out) | exact HB.out)⟩
                            · rw [if_neg c15] at H
                              have c15b0 : decide ((wrap64 ((l0.length : Int) - (wrap64 (x5_2 + 2)))) < (wrap64 (8 * (wrap64 (rd l0 (ji12)))))) = false := decide_eq_false c15
                              clear c15
                              have H' := Aside0.mk H
                              clear H
                              have p170 : 0 ≤ (1 : Int) := (by omega)
                              have q170 : 1 < (l0.length : Int) := of_decide_eq_true (by first | (with_reducible assumption) | assumption)
                              obtain ⟨ad170, e170, hx170_0⟩ := Kd.at_int HR0.out 1 p170 q170
                              cases e170
                              (try simp only [show (1 : Int).toNat = 1 from rfl, Nat.reduceMul, Nat.reduceEqDiff, Go.Addr.add, ↓reduceIte] at hx170_0)
                              have qi170 : (1 < l0.length) = True := eq_true (by omega)
                              (try rw [show ((1 : Int)).toNat = 1 from rfl] at hx170_0)
                              replace hx170_0 := (HB.out.cell (World.block_lt_of_cell? w _ hx170_0)).trans hx170_0
                              replace p170 := eq_true p170
                              replace q170 := eq_true q170
                              have p171 : 0 ≤ (x5_2 : Int) := of_decide_eq_true (by first | (with_reducible assumption) | assumption)
                              have q171 : x5_2 < (l0.length : Int) := of_decide_eq_true (by first | (with_reducible assumption) | assumption)
                              obtain ⟨ad171, e171, hx171_0⟩ := Kd.at_int HR0.out x5_2 p171 q171
                              obtain rfl : ad170 = ad171 := (by injection e171)
                              replace hx171_0 := (HB.out.cell (World.block_lt_of_cell? w _ hx171_0)).trans hx171_0
                              replace p171 := eq_true p171
                              replace q171 := eq_true q171
                              go_wp2_with (first | ((with_reducible refine gate_dst (N := 7) rfl ?_); refine box_event ?hg (N := 7) ?hd (cs := #[.int .i64 0, .slice none 0 0]) (t := 51) ?hr ?_; (case hd => rfl); (case hg => rfl); (case hr => first | (go_simp; done) | (go_simp; rfl)); intro gb172 hg w18 hbox hb; have n0_ := Aside0.mk (Kd.S_below (Kd.S_elderB (by (with_reducible repeat (first | apply Kd.S_alloc | apply Kd.S_drewN | apply Kd.S_drew)); exact HO_4.out) gb172 (Nat.le_of_eq hg.symm)) hb); have n1_ := Aside0.mk (below_step (by repeat (first | (with_reducible first | exact HB.out | apply below_alloc | apply pw_below_drewN | apply below_drew1) | exact HB.out)) hb); have n2_ := Aside0.mk (hbox); have n3_ := Aside0.mk ((by rw [hg]; exact (below_size (by repeat (first | (with_reducible first | exact HB.out | apply below_alloc | apply pw_below_drewN | apply below_drew1) | exact HB.out))) : w.heap.size ≤ gb172)); have n4_ := Aside0.mk ((by rw [hg]; exact (below_size (by repeat (first | (with_reducible first | exact HB.out | apply below_alloc | apply pw_below_drewN | apply below_drew1) | exact HB.out))) : w.heap.size ≤ gb172)); clear HO_4; clear HB; have HO_4 := n0_; have HB := n1_; have BK172 := n2_; have GW172 := n3_; have GE172 := n4_; clear n0_ n1_ n2_ n3_ n4_; clear hb hbox hg; have hcz19_0 : w18.cell? ⟨gb172, 0, none⟩ = some (.int .i64 0) := (blk_cell BK172.out 0).trans rfl; have hcz19_1 : w18.cell? ⟨gb172, 1, none⟩ = some (.slice none 0 0) := (blk_cell BK172.out 1).trans rfl; have hfz19_0 := blk_frozen BK172.out 0; have hfz19_1 := blk_frozen BK172.out 1; have p173 : 0 ≤ ((ji12) : Int) := of_decide_eq_true (by first | (with_reducible assumption) | assumption); have q173 : (ji12) < (l0.length : Int) := of_decide_eq_true (by first | (with_reducible assumption) | assumption); obtain ⟨ad173, e173, hx173_0⟩ := Kd.at_int HR0.out (ji12) p173 q173; obtain rfl : ad170 = ad173 := (by injection e173); have hn173_0 : ad170.block ≠ gb172 := Nat.ne_of_lt (Nat.lt_of_lt_of_le (by have := World.block_lt_of_cell? _ _ hx173_0; first | rwa [add_block] at this | exact this) GW172.out); have hn173_1 : ad170.block ≠ gb172 := Nat.ne_of_lt (Nat.lt_of_lt_of_le (by have := World.block_lt_of_cell? _ _ hx173_0; first | rwa [add_block] at this | exact this) GW172.out); replace hx173_0 := (HB.out.cell (World.block_lt_of_cell? w _ hx173_0)).trans hx173_0; replace hx173_0 := (cell_far (p := ⟨gb172, 0, none⟩) (by first | (rw [add_block]; exact hn173_0) | (show (Addr.add _ _).block ≠ _; rw [add_block]; exact hn173_0) | exact hn173_0) (.int .i64 (wrap64 (rd l0 x5_2)))).trans hx173_0; replace hx173_0 := (cell_far (p := ⟨gb172, 1, none⟩) (by first | (rw [add_block]; exact hn173_1) | (show (Addr.add _ _).block ≠ _; rw [add_block]; exact hn173_1) | exact hn173_1) (.slice none 0 0)).trans hx173_0; clear hn173_0; clear hn173_1; replace p173 := eq_true p173; replace q173 := eq_true q173))
                              go_loopg [5, 9] k2 (fun kq v5 v9 w' => ∃ (x5_3 : Int) (x9_3 : Int) (x173001_3 : List (S56)) (u173001 : Value), v5 = .int .i64 x5_3 ∧ v9 = .int .i64 x9_3 ∧ Aside0 (haymowref02_Read.l1 kq l0 x4_2 x5_3 x6_2 (wrap64 (rd l0 (ji12))) x9_3 (wrap64 (rd l0 x5_2)) x173001_3 = some (r1, r2)) ∧ Aside0 (kq ≤ k2) ∧ Aside0 (Kd.S k51 51 w' w.heap.size (fun k_ => some k_ ≠ (u173001 : Value).ownBlock ∧ k_ ≠ gb172) u4 x4_2) ∧ Aside0 (Kd.R k56 56 w' w.heap.size (fun _ => True) u173001 x173001_3) ∧ Aside0 (w'.heap[gb172]? = some (.cells #[.int .i64 (wrap64 (rd l0 x5_2)), u173001] 51 (0, 0))) ∧ Aside0 (Below w.heap.size w w'))
                              case atStart => exact ⟨(wrap64 (x5_2 + 2)), (0), (([] : List (S56))), (.slice none 0 0), (by first | rfl | (simp; done) | (simp [*]; done)), (by first | rfl | (simp; done) | (simp [*]; done)), H', ⟨Nat.le_refl _⟩, ⟨by (with_reducible repeat (first | apply Kd.S_alloc | apply Kd.S_drewN | apply Kd.S_drew)); exact Kd.S_mono (Kd.S_far (p := ⟨gb172, 1, none⟩) (Kd.S_far (p := ⟨gb172, 0, none⟩) (Kd.S_mono HO_4.out (fun k_ hk => (⟨hk, hk.2⟩ : _ ∧ k_ ≠ gb172))) (fun _ hk => hk.2) (.int .i64 (wrap64 (rd l0 x5_2)))) (fun _ hk => hk.2) (.slice none 0 0)) (fun _ hk => ⟨(by simp [Value.ownBlock]), hk.1.2⟩)⟩, ⟨by first | exact Kd.R_nil _ _ _ _ _ | exact Kd.N_nil _ _ _ _ _ | exact Kd.V_nil _ _ _ _ _ | exact Kd.Q_nil _ _ _ _ _ | exact Kd.S_nil _ _ _ _ _⟩, ⟨by (with_reducible repeat (first | refine blk_drewN ?_ _ | refine blk_drew ?_ | refine blk_alloc ?_ _)); refine blk_put (cs := #[.int .i64 (wrap64 (rd l0 x5_2)), .slice none 0 0]) ?_ 1 _ rfl; (with_reducible repeat (first | refine blk_drewN ?_ _ | refine blk_drew ?_ | refine blk_alloc ?_ _)); refine blk_put (cs := #[.int .i64 0, .slice none 0 0]) ?_ 0 _ rfl; (with_reducible repeat (first | refine blk_drewN ?_ _ | refine blk_drew ?_ | refine blk_alloc ?_ _)); exact BK172.out⟩, ⟨by repeat (first | (with_reducible first | exact HB.out | apply below_alloc | apply pw_below_drewN | apply below_drew1 | refine below_set ?_ GE172.out) | exact HB.out)⟩⟩
                              case round =>
                                clear H'
                                try clear c1
                                try clear p1
                                try clear q1
                                try clear hx1
                                try clear qi1
                                try clear p2
                                try clear c3
                                try clear c3b0
                                try clear c3b1
                                try clear c3b2
                                try clear c4
                                try clear c4b0
                                try clear c4b1
                                try clear c5
                                try clear c6
                                try clear c6b0
                                try clear c6b1
                                try clear p6
                                try clear c7
                                try clear c7b0
                                try clear c7b1
                                try clear c8
                                try clear c8b0
                                try clear c9
                                try clear c9b0
                                try clear c10
                                try clear c10b0
                                try clear c11
                                try clear c11b0
                                try clear c13
                                try clear c13b0
                                try clear c14
                                try clear c14b0
                                try clear c15
                                try clear c15b0
                                try clear p16
                                try clear q16
                                try clear hx16
                                try clear qi16
                                try clear p17
                                try clear q17
                                try clear hx17
                                try clear qi17
                                try clear hcz17_0
                                try clear hcz17_1
                                try clear hcz19_0
                                try clear hcz19_1
                                try clear hfz17_0
                                try clear hfz17_1
                                try clear hfz19_0
                                try clear hfz19_1
                                try clear hx169_0
                                try clear hx170_0
                                try clear hx171_0
                                try clear hx173_0
                                try clear p1
                                try clear p169
                                try clear p170
                                try clear p171
                                try clear p173
                                try clear p2
                                try clear q1
                                try clear q169
                                try clear q170
                                try clear q171
                                try clear q173
                                obtain ⟨x5_3, x9_3, x173001_3, u173001, rfl, rfl, HA, HK3, HO_4, HO_173001, BK172, HB⟩ := hrel
                                cases gk with
                                | zero => exact absurd HA.out (by simp [haymowref02_Read.l1])
                                | succ k3 =>
                                  have H := HA.out
                                  clear HA
                                  simp only [haymowref02_Read.l1] at H
                                  by_cases c20 : x9_3 < (wrap64 (rd l0 (ji12)))
                                  · rw [if_pos c20] at H
                                    have c20b0 : decide (x9_3 < (wrap64 (rd l0 (ji12)))) = true := decide_eq_true c20
                                    clear c20
                                    obtain ⟨ji21, hji21⟩ : ∃ j_ : Int, (wrap64 (x5_3 + 4)) = j_ := ⟨_, rfl⟩
                                    replace H : (if 0 ≤ (ji21) then (if (ji21) < (l0.length : Int) then (if 0 ≤ (wrap64 (x5_3 + 5)) then (if (wrap64 (x5_3 + 5)) < (l0.length : Int) then (if 0 ≤ (wrap64 (x5_3 + 6)) then (if (wrap64 (x5_3 + 6)) < (l0.length : Int) then (if 0 ≤ (wrap64 (x5_3 + 7)) then (if (wrap64 (x5_3 + 7)) < (l0.length : Int) then (if (wrap64 ((wrap64 (rd l0 (ji21))) + (wrap64 (256 * (wrap64 ((wrap64 (rd l0 (wrap64 (x5_3 + 5)))) + (wrap64 (256 * (wrap64 ((wrap64 (rd l0 (wrap64 (x5_3 + 6)))) + (wrap64 (256 * (wrap64 (rd l0 (wrap64 (x5_3 + 7)))))))))))))))) ≥ 2147483648 then (if 0 ≤ x5_3 then (if x5_3 < (l0.length : Int) then (if 0 ≤ (wrap64 (x5_3 + 1)) then (if (wrap64 (x5_3 + 1)) < (l0.length : Int) then (if 0 ≤ (wrap64 (x5_3 + 2)) then (if (wrap64 (x5_3 + 2)) < (l0.length : Int) then (if 0 ≤ (wrap64 (x5_3 + 3)) then (if (wrap64 (x5_3 + 3)) < (l0.length : Int) then (if x173001_3.length < 3518437208883 then (haymowref02_Read.l1 k3 l0 x4_2 (wrap64 (x5_3 + 8)) x6_2 (wrap64 (rd l0 (ji12))) (wrap64 (x9_3 + 1)) (wrap64 (rd l0 x5_2)) (x173001_3 ++ [(⟨wrap64 (rd l0 x5_3), wrap64 (rd l0 (wrap64 (x5_3 + 1))), wrap64 (rd l0 (wrap64 (x5_3 + 2))), wrap64 (rd l0 (wrap64 (x5_3 + 3))), wrap64 ((wrap64 ((wrap64 (rd l0 (ji21))) + (wrap64 (256 * (wrap64 ((wrap64 (rd l0 (wrap64 (x5_3 + 5)))) + (wrap64 (256 * (wrap64 ((wrap64 (rd l0 (wrap64 (x5_3 + 6)))) + (wrap64 (256 * (wrap64 (rd l0 (wrap64 (x5_3 + 7)))))))))))))))) - 4294967296)⟩ : S56)])) else (none)) else (none)) else (none)) else (none)) else (none)) else (none)) else (none)) else (none)) else (none)) else (if 0 ≤ x5_3 then (if x5_3 < (l0.length : Int) then (if 0 ≤ (wrap64 (x5_3 + 1)) then (if (wrap64 (x5_3 + 1)) < (l0.length : Int) then (if 0 ≤ (wrap64 (x5_3 + 2)) then (if (wrap64 (x5_3 + 2)) < (l0.length : Int) then (if 0 ≤ (wrap64 (x5_3 + 3)) then (if (wrap64 (x5_3 + 3)) < (l0.length : Int) then (if x173001_3.length < 3518437208883 then (haymowref02_Read.l1 k3 l0 x4_2 (wrap64 (x5_3 + 8)) x6_2 (wrap64 (rd l0 (ji12))) (wrap64 (x9_3 + 1)) (wrap64 (rd l0 x5_2)) (x173001_3 ++ [(⟨wrap64 (rd l0 x5_3), wrap64 (rd l0 (wrap64 (x5_3 + 1))), wrap64 (rd l0 (wrap64 (x5_3 + 2))), wrap64 (rd l0 (wrap64 (x5_3 + 3))), wrap64 ((wrap64 (rd l0 (ji21))) + (wrap64 (256 * (wrap64 ((wrap64 (rd l0 (wrap64 (x5_3 + 5)))) + (wrap64 (256 * (wrap64 ((wrap64 (rd l0 (wrap64 (x5_3 + 6)))) + (wrap64 (256 * (wrap64 (rd l0 (wrap64 (x5_3 + 7)))))))))))))))⟩ : S56)])) else (none)) else (none)) else (none)) else (none)) else (none)) else (none)) else (none)) else (none)) else (none))) else (none)) else (none)) else (none)) else (none)) else (none)) else (none)) else (none)) else (none)) = some (r1, r2) := by first | (rw [hji21] at H; exact H) | (simp only [hji21] at H ⊢; exact H)
                                    have hji21w : (IntKind.i64.wrap (x5_3 + 4)) = ji21 := (i64_w _).trans hji21
                                    by_cases c22 : 0 ≤ (ji21)
                                    · rw [if_pos c22] at H
                                      have c22b0 : decide (0 ≤ (ji21)) = true := decide_eq_true c22
                                      clear c22
                                      by_cases c23 : (ji21) < (l0.length : Int)
                                      · rw [if_pos c23] at H
                                        have c23b0 : decide ((ji21) < (l0.length : Int)) = true := decide_eq_true c23
                                        clear c23
                                        obtain ⟨ji24, hji24⟩ : ∃ j_ : Int, (wrap64 (x5_3 + 5)) = j_ := ⟨_, rfl⟩
                                        replace H : (if 0 ≤ (ji24) then (if (ji24) < (l0.length : Int) then (if 0 ≤ (wrap64 (x5_3 + 6)) then (if (wrap64 (x5_3 + 6)) < (l0.length : Int) then (if 0 ≤ (wrap64 (x5_3 + 7)) then (if (wrap64 (x5_3 + 7)) < (l0.length : Int) then (if (wrap64 ((wrap64 (rd l0 (ji21))) + (wrap64 (256 * (wrap64 ((wrap64 (rd l0 (ji24))) + (wrap64 (256 * (wrap64 ((wrap64 (rd l0 (wrap64 (x5_3 + 6)))) + (wrap64 (256 * (wrap64 (rd l0 (wrap64 (x5_3 + 7)))))))))))))))) ≥ 2147483648 then (if 0 ≤ x5_3 then (if x5_3 < (l0.length : Int) then (if 0 ≤ (wrap64 (x5_3 + 1)) then (if (wrap64 (x5_3 + 1)) < (l0.length : Int) then (if 0 ≤ (wrap64 (x5_3 + 2)) then (if (wrap64 (x5_3 + 2)) < (l0.length : Int) then (if 0 ≤ (wrap64 (x5_3 + 3)) then (if (wrap64 (x5_3 + 3)) < (l0.length : Int) then (if x173001_3.length < 3518437208883 then (haymowref02_Read.l1 k3 l0 x4_2 (wrap64 (x5_3 + 8)) x6_2 (wrap64 (rd l0 (ji12))) (wrap64 (x9_3 + 1)) (wrap64 (rd l0 x5_2)) (x173001_3 ++ [(⟨wrap64 (rd l0 x5_3), wrap64 (rd l0 (wrap64 (x5_3 + 1))), wrap64 (rd l0 (wrap64 (x5_3 + 2))), wrap64 (rd l0 (wrap64 (x5_3 + 3))), wrap64 ((wrap64 ((wrap64 (rd l0 (ji21))) + (wrap64 (256 * (wrap64 ((wrap64 (rd l0 (ji24))) + (wrap64 (256 * (wrap64 ((wrap64 (rd l0 (wrap64 (x5_3 + 6)))) + (wrap64 (256 * (wrap64 (rd l0 (wrap64 (x5_3 + 7)))))))))))))))) - 4294967296)⟩ : S56)])) else (none)) else (none)) else (none)) else (none)) else (none)) else (none)) else (none)) else (none)) else (none)) else (if 0 ≤ x5_3 then (if x5_3 < (l0.length : Int) then (if 0 ≤ (wrap64 (x5_3 + 1)) then (if (wrap64 (x5_3 + 1)) < (l0.length : Int) then (if 0 ≤ (wrap64 (x5_3 + 2)) then (if (wrap64 (x5_3 + 2)) < (l0.length : Int) then (if 0 ≤ (wrap64 (x5_3 + 3)) then (if (wrap64 (x5_3 + 3)) < (l0.length : Int) then (if x173001_3.length < 3518437208883 then (haymowref02_Read.l1 k3 l0 x4_2 (wrap64 (x5_3 + 8)) x6_2 (wrap64 (rd l0 (ji12))) (wrap64 (x9_3 + 1)) (wrap64 (rd l0 x5_2)) (x173001_3 ++ [(⟨wrap64 (rd l0 x5_3), wrap64 (rd l0 (wrap64 (x5_3 + 1))), wrap64 (rd l0 (wrap64 (x5_3 + 2))), wrap64 (rd l0 (wrap64 (x5_3 + 3))), wrap64 ((wrap64 (rd l0 (ji21))) + (wrap64 (256 * (wrap64 ((wrap64 (rd l0 (ji24))) + (wrap64 (256 * (wrap64 ((wrap64 (rd l0 (wrap64 (x5_3 + 6)))) + (wrap64 (256 * (wrap64 (rd l0 (wrap64 (x5_3 + 7)))))))))))))))⟩ : S56)])) else (none)) else (none)) else (none)) else (none)) else (none)) else (none)) else (none)) else (none)) else (none))) else (none)) else (none)) else (none)) else (none)) else (none)) else (none)) = some (r1, r2) := by first | (rw [hji24] at H; exact H) | (simp only [hji24] at H ⊢; exact H)
                                        have hji24w : (IntKind.i64.wrap (x5_3 + 5)) = ji24 := (i64_w _).trans hji24
                                        by_cases c25 : 0 ≤ (ji24)
                                        · rw [if_pos c25] at H
                                          have c25b0 : decide (0 ≤ (ji24)) = true := decide_eq_true c25
                                          clear c25
                                          by_cases c26 : (ji24) < (l0.length : Int)
                                          · rw [if_pos c26] at H
                                            have c26b0 : decide ((ji24) < (l0.length : Int)) = true := decide_eq_true c26
                                            clear c26
                                            obtain ⟨ji27, hji27⟩ : ∃ j_ : Int, (wrap64 (x5_3 + 6)) = j_ := ⟨_, rfl⟩
                                            replace H : (if 0 ≤ (ji27) then (if (ji27) < (l0.length : Int) then (if 0 ≤ (wrap64 (x5_3 + 7)) then (if (wrap64 (x5_3 + 7)) < (l0.length : Int) then (if (wrap64 ((wrap64 (rd l0 (ji21))) + (wrap64 (256 * (wrap64 ((wrap64 (rd l0 (ji24))) + (wrap64 (256 * (wrap64 ((wrap64 (rd l0 (ji27))) + (wrap64 (256 * (wrap64 (rd l0 (wrap64 (x5_3 + 7)))))))))))))))) ≥ 2147483648 then (if 0 ≤ x5_3 then (if x5_3 < (l0.length : Int) then (if 0 ≤ (wrap64 (x5_3 + 1)) then (if (wrap64 (x5_3 + 1)) < (l0.length : Int) then (if 0 ≤ (wrap64 (x5_3 + 2)) then (if (wrap64 (x5_3 + 2)) < (l0.length : Int) then (if 0 ≤ (wrap64 (x5_3 + 3)) then (if (wrap64 (x5_3 + 3)) < (l0.length : Int) then (if x173001_3.length < 3518437208883 then (haymowref02_Read.l1 k3 l0 x4_2 (wrap64 (x5_3 + 8)) x6_2 (wrap64 (rd l0 (ji12))) (wrap64 (x9_3 + 1)) (wrap64 (rd l0 x5_2)) (x173001_3 ++ [(⟨wrap64 (rd l0 x5_3), wrap64 (rd l0 (wrap64 (x5_3 + 1))), wrap64 (rd l0 (wrap64 (x5_3 + 2))), wrap64 (rd l0 (wrap64 (x5_3 + 3))), wrap64 ((wrap64 ((wrap64 (rd l0 (ji21))) + (wrap64 (256 * (wrap64 ((wrap64 (rd l0 (ji24))) + (wrap64 (256 * (wrap64 ((wrap64 (rd l0 (ji27))) + (wrap64 (256 * (wrap64 (rd l0 (wrap64 (x5_3 + 7)))))))))))))))) - 4294967296)⟩ : S56)])) else (none)) else (none)) else (none)) else (none)) else (none)) else (none)) else (none)) else (none)) else (none)) else (if 0 ≤ x5_3 then (if x5_3 < (l0.length : Int) then (if 0 ≤ (wrap64 (x5_3 + 1)) then (if (wrap64 (x5_3 + 1)) < (l0.length : Int) then (if 0 ≤ (wrap64 (x5_3 + 2)) then (if (wrap64 (x5_3 + 2)) < (l0.length : Int) then (if 0 ≤ (wrap64 (x5_3 + 3)) then (if (wrap64 (x5_3 + 3)) < (l0.length : Int) then (if x173001_3.length < 3518437208883 then (haymowref02_Read.l1 k3 l0 x4_2 (wrap64 (x5_3 + 8)) x6_2 (wrap64 (rd l0 (ji12))) (wrap64 (x9_3 + 1)) (wrap64 (rd l0 x5_2)) (x173001_3 ++ [(⟨wrap64 (rd l0 x5_3), wrap64 (rd l0 (wrap64 (x5_3 + 1))), wrap64 (rd l0 (wrap64 (x5_3 + 2))), wrap64 (rd l0 (wrap64 (x5_3 + 3))), wrap64 ((wrap64 (rd l0 (ji21))) + (wrap64 (256 * (wrap64 ((wrap64 (rd l0 (ji24))) + (wrap64 (256 * (wrap64 ((wrap64 (rd l0 (ji27))) + (wrap64 (256 * (wrap64 (rd l0 (wrap64 (x5_3 + 7)))))))))))))))⟩ : S56)])) else (none)) else (none)) else (none)) else (none)) else (none)) else (none)) else (none)) else (none)) else (none))) else (none)) else (none)) else (none)) else (none)) = some (r1, r2) := by first | (rw [hji27] at H; exact H) | (simp only [hji27] at H ⊢; exact H)
                                            have hji27w : (IntKind.i64.wrap (x5_3 + 6)) = ji27 := (i64_w _).trans hji27
                                            by_cases c28 : 0 ≤ (ji27)
                                            · rw [if_pos c28] at H
                                              have c28b0 : decide (0 ≤ (ji27)) = true := decide_eq_true c28
                                              clear c28
                                              by_cases c29 : (ji27) < (l0.length : Int)
                                              · rw [if_pos c29] at H
                                                have c29b0 : decide ((ji27) < (l0.length : Int)) = true := decide_eq_true c29
                                                clear c29
                                                obtain ⟨ji30, hji30⟩ : ∃ j_ : Int, (wrap64 (x5_3 + 7)) = j_ := ⟨_, rfl⟩
                                                replace H : (if 0 ≤ (ji30) then (if (ji30) < (l0.length : Int) then (if (wrap64 ((wrap64 (rd l0 (ji21))) + (wrap64 (256 * (wrap64 ((wrap64 (rd l0 (ji24))) + (wrap64 (256 * (wrap64 ((wrap64 (rd l0 (ji27))) + (wrap64 (256 * (wrap64 (rd l0 (ji30))))))))))))))) ≥ 2147483648 then (if 0 ≤ x5_3 then (if x5_3 < (l0.length : Int) then (if 0 ≤ (wrap64 (x5_3 + 1)) then (if (wrap64 (x5_3 + 1)) < (l0.length : Int) then (if 0 ≤ (wrap64 (x5_3 + 2)) then (if (wrap64 (x5_3 + 2)) < (l0.length : Int) then (if 0 ≤ (wrap64 (x5_3 + 3)) then (if (wrap64 (x5_3 + 3)) < (l0.length : Int) then (if x173001_3.length < 3518437208883 then (haymowref02_Read.l1 k3 l0 x4_2 (wrap64 (x5_3 + 8)) x6_2 (wrap64 (rd l0 (ji12))) (wrap64 (x9_3 + 1)) (wrap64 (rd l0 x5_2)) (x173001_3 ++ [(⟨wrap64 (rd l0 x5_3), wrap64 (rd l0 (wrap64 (x5_3 + 1))), wrap64 (rd l0 (wrap64 (x5_3 + 2))), wrap64 (rd l0 (wrap64 (x5_3 + 3))), wrap64 ((wrap64 ((wrap64 (rd l0 (ji21))) + (wrap64 (256 * (wrap64 ((wrap64 (rd l0 (ji24))) + (wrap64 (256 * (wrap64 ((wrap64 (rd l0 (ji27))) + (wrap64 (256 * (wrap64 (rd l0 (ji30))))))))))))))) - 4294967296)⟩ : S56)])) else (none)) else (none)) else (none)) else (none)) else (none)) else (none)) else (none)) else (none)) else (none)) else (if 0 ≤ x5_3 then (if x5_3 < (l0.length : Int) then (if 0 ≤ (wrap64 (x5_3 + 1)) then (if (wrap64 (x5_3 + 1)) < (l0.length : Int) then (if 0 ≤ (wrap64 (x5_3 + 2)) then (if (wrap64 (x5_3 + 2)) < (l0.length : Int) then (if 0 ≤ (wrap64 (x5_3 + 3)) then (if (wrap64 (x5_3 + 3)) < (l0.length : Int) then (if x173001_3.length < 3518437208883 then (haymowref02_Read.l1 k3 l0 x4_2 (wrap64 (x5_3 + 8)) x6_2 (wrap64 (rd l0 (ji12))) (wrap64 (x9_3 + 1)) (wrap64 (rd l0 x5_2)) (x173001_3 ++ [(⟨wrap64 (rd l0 x5_3), wrap64 (rd l0 (wrap64 (x5_3 + 1))), wrap64 (rd l0 (wrap64 (x5_3 + 2))), wrap64 (rd l0 (wrap64 (x5_3 + 3))), wrap64 ((wrap64 (rd l0 (ji21))) + (wrap64 (256 * (wrap64 ((wrap64 (rd l0 (ji24))) + (wrap64 (256 * (wrap64 ((wrap64 (rd l0 (ji27))) + (wrap64 (256 * (wrap64 (rd l0 (ji30))))))))))))))⟩ : S56)])) else (none)) else (none)) else (none)) else (none)) else (none)) else (none)) else (none)) else (none)) else (none))) else (none)) else (none)) = some (r1, r2) := by first | (rw [hji30] at H; exact H) | (simp only [hji30] at H ⊢; exact H)
                                                have hji30w : (IntKind.i64.wrap (x5_3 + 7)) = ji30 := (i64_w _).trans hji30
                                                by_cases c31 : 0 ≤ (ji30)
                                                · rw [if_pos c31] at H
                                                  have c31b0 : decide (0 ≤ (ji30)) = true := decide_eq_true c31
                                                  clear c31
                                                  by_cases c32 : (ji30) < (l0.length : Int)
                                                  · rw [if_pos c32] at H
                                                    have c32b0 : decide ((ji30) < (l0.length : Int)) = true := decide_eq_true c32
                                                    clear c32
                                                    by_cases c33 : (wrap64 ((wrap64 (rd l0 (ji21))) + (wrap64 (256 * (wrap64 ((wrap64 (rd l0 (ji24))) + (wrap64 (256 * (wrap64 ((wrap64 (rd l0 (ji27))) + (wrap64 (256 * (wrap64 (rd l0 (ji30))))))))))))))) ≥ 2147483648
                                                    · rw [if_pos c33] at H
                                                      have c33b0 : decide (2147483648 ≤ (wrap64 ((wrap64 (rd l0 (ji21))) + (wrap64 (256 * (wrap64 ((wrap64 (rd l0 (ji24))) + (wrap64 (256 * (wrap64 ((wrap64 (rd l0 (ji27))) + (wrap64 (256 * (wrap64 (rd l0 (ji30)))))))))))))))) = true := decide_eq_true c33
                                                      clear c33
                                                      by_cases c34 : 0 ≤ x5_3
                                                      · rw [if_pos c34] at H
                                                        have c34b0 : decide (0 ≤ x5_3) = true := decide_eq_true c34
                                                        clear c34
                                                        by_cases c35 : x5_3 < (l0.length : Int)
                                                        · rw [if_pos c35] at H
                                                          have c35b0 : decide (x5_3 < (l0.length : Int)) = true := decide_eq_true c35
                                                          clear c35
                                                          obtain ⟨ji36, hji36⟩ : ∃ j_ : Int, (wrap64 (x5_3 + 1)) = j_ := ⟨_, rfl⟩
                                                          replace H : (if 0 ≤ (ji36) then (if (ji36) < (l0.length : Int) then (if 0 ≤ (wrap64 (x5_3 + 2)) then (if (wrap64 (x5_3 + 2)) < (l0.length : Int) then (if 0 ≤ (wrap64 (x5_3 + 3)) then (if (wrap64 (x5_3 + 3)) < (l0.length : Int) then (if x173001_3.length < 3518437208883 then (haymowref02_Read.l1 k3 l0 x4_2 (wrap64 (x5_3 + 8)) x6_2 (wrap64 (rd l0 (ji12))) (wrap64 (x9_3 + 1)) (wrap64 (rd l0 x5_2)) (x173001_3 ++ [(⟨wrap64 (rd l0 x5_3), wrap64 (rd l0 (ji36)), wrap64 (rd l0 (wrap64 (x5_3 + 2))), wrap64 (rd l0 (wrap64 (x5_3 + 3))), wrap64 ((wrap64 ((wrap64 (rd l0 (ji21))) + (wrap64 (256 * (wrap64 ((wrap64 (rd l0 (ji24))) + (wrap64 (256 * (wrap64 ((wrap64 (rd l0 (ji27))) + (wrap64 (256 * (wrap64 (rd l0 (ji30))))))))))))))) - 4294967296)⟩ : S56)])) else (none)) else (none)) else (none)) else (none)) else (none)) else (none)) else (none)) = some (r1, r2) := by first | (rw [hji36] at H; exact H) | (simp only [hji36] at H ⊢; exact H)
                                                          have hji36w : (IntKind.i64.wrap (x5_3 + 1)) = ji36 := (i64_w _).trans hji36
                                                          by_cases c37 : 0 ≤ (ji36)
                                                          · rw [if_pos c37] at H
                                                            have c37b0 : decide (0 ≤ (ji36)) = true := decide_eq_true c37
                                                            clear c37
                                                            by_cases c38 : (ji36) < (l0.length : Int)
                                                            · rw [if_pos c38] at H
                                                              have c38b0 : decide ((ji36) < (l0.length : Int)) = true := decide_eq_true c38
                                                              clear c38
                                                              obtain ⟨ji39, hji39⟩ : ∃ j_ : Int, (wrap64 (x5_3 + 2)) = j_ := ⟨_, rfl⟩
                                                              replace H : (if 0 ≤ (ji39) then (if (ji39) < (l0.length : Int) then (if 0 ≤ (wrap64 (x5_3 + 3)) then (if (wrap64 (x5_3 + 3)) < (l0.length : Int) then (if x173001_3.length < 3518437208883 then (haymowref02_Read.l1 k3 l0 x4_2 (wrap64 (x5_3 + 8)) x6_2 (wrap64 (rd l0 (ji12))) (wrap64 (x9_3 + 1)) (wrap64 (rd l0 x5_2)) (x173001_3 ++ [(⟨wrap64 (rd l0 x5_3), wrap64 (rd l0 (ji36)), wrap64 (rd l0 (ji39)), wrap64 (rd l0 (wrap64 (x5_3 + 3))), wrap64 ((wrap64 ((wrap64 (rd l0 (ji21))) + (wrap64 (256 * (wrap64 ((wrap64 (rd l0 (ji24))) + (wrap64 (256 * (wrap64 ((wrap64 (rd l0 (ji27))) + (wrap64 (256 * (wrap64 (rd l0 (ji30))))))))))))))) - 4294967296)⟩ : S56)])) else (none)) else (none)) else (none)) else (none)) else (none)) = some (r1, r2) := by first | (rw [hji39] at H; exact H) | (simp only [hji39] at H ⊢; exact H)
                                                              have hji39w : (IntKind.i64.wrap (x5_3 + 2)) = ji39 := (i64_w _).trans hji39
                                                              by_cases c40 : 0 ≤ (ji39)
                                                              · rw [if_pos c40] at H
                                                                have c40b0 : decide (0 ≤ (ji39)) = true := decide_eq_true c40
                                                                clear c40
                                                                by_cases c41 : (ji39) < (l0.length : Int)
                                                                · rw [if_pos c41] at H
                                                                  have c41b0 : decide ((ji39) < (l0.length : Int)) = true := decide_eq_true c41
                                                                  clear c41
                                                                  obtain ⟨ji42, hji42⟩ : ∃ j_ : Int, (wrap64 (x5_3 + 3)) = j_ := ⟨_, rfl⟩
                                                                  replace H : (if 0 ≤ (ji42) then (if (ji42) < (l0.length : Int) then (if x173001_3.length < 3518437208883 then (haymowref02_Read.l1 k3 l0 x4_2 (wrap64 (x5_3 + 8)) x6_2 (wrap64 (rd l0 (ji12))) (wrap64 (x9_3 + 1)) (wrap64 (rd l0 x5_2)) (x173001_3 ++ [(⟨wrap64 (rd l0 x5_3), wrap64 (rd l0 (ji36)), wrap64 (rd l0 (ji39)), wrap64 (rd l0 (ji42)), wrap64 ((wrap64 ((wrap64 (rd l0 (ji21))) + (wrap64 (256 * (wrap64 ((wrap64 (rd l0 (ji24))) + (wrap64 (256 * (wrap64 ((wrap64 (rd l0 (ji27))) + (wrap64 (256 * (wrap64 (rd l0 (ji30))))))))))))))) - 4294967296)⟩ : S56)])) else (none)) else (none)) else (none)) = some (r1, r2) := by first | (rw [hji42] at H; exact H) | (simp only [hji42] at H ⊢; exact H)
                                                                  have hji42w : (IntKind.i64.wrap (x5_3 + 3)) = ji42 := (i64_w _).trans hji42
                                                                  by_cases c43 : 0 ≤ (ji42)
                                                                  · rw [if_pos c43] at H
                                                                    have c43b0 : decide (0 ≤ (ji42)) = true := decide_eq_true c43
                                                                    clear c43
                                                                    by_cases c44 : (ji42) < (l0.length : Int)
                                                                    · rw [if_pos c44] at H
                                                                      have c44b0 : decide ((ji42) < (l0.length : Int)) = true := decide_eq_true c44
                                                                      clear c44
                                                                      by_cases c45 : x173001_3.length < 3518437208883
                                                                      · rw [if_pos c45] at H
                                                                        have LMc45 := Aside0.mk c45
                                                                        clear c45
                                                                        obtain ⟨y182, hy182⟩ : ∃ y_ : List (S56), y_ = (x173001_3 ++ [(⟨wrap64 (rd l0 x5_3), wrap64 (rd l0 (ji36)), wrap64 (rd l0 (ji39)), wrap64 (rd l0 (ji42)), wrap64 ((wrap64 ((wrap64 (rd l0 (ji21))) + (wrap64 (256 * (wrap64 ((wrap64 (rd l0 (ji24))) + (wrap64 (256 * (wrap64 ((wrap64 (rd l0 (ji27))) + (wrap64 (256 * (wrap64 (rd l0 (ji30))))))))))))))) - 4294967296)⟩ : S56)]) := ⟨_, rfl⟩
                                                                        replace H : (haymowref02_Read.l1 k3 l0 x4_2 (wrap64 (x5_3 + 8)) x6_2 (wrap64 (rd l0 (ji12))) (wrap64 (x9_3 + 1)) (wrap64 (rd l0 x5_2)) y182) = some (r1, r2) := by first | (rw [hy182]; with_reducible exact H) | (have H2_ := (Option.bind_some _ _).symm.trans H; rw [hy182]; with_reducible exact H2_) | (have H2_ := (Option.bind_some _ _).symm.trans H; with_reducible exact H2_) | with_reducible exact H | (rw [hy182]; exact H) | exact H
                                                                        have Ny182 := Aside0.mk hy182
                                                                        clear hy182
                                                                        have H' := Aside0.mk H
                                                                        clear H
                                                                        try go_wp2
                                                                        have n0_ := Aside0.mk (Kd.S_drew HO_4.out)
                                                                        have n1_ := Aside0.mk (Kd.R_drew HO_173001.out)
                                                                        have n2_ := Aside0.mk (blk_drew BK172.out)
                                                                        have n3_ := Aside0.mk (below_drew1 HB.out)
                                                                        clear HO_4
                                                                        clear HO_173001
                                                                        clear BK172
                                                                        clear HB
                                                                        have HO_4 := n0_
                                                                        have HO_173001 := n1_
                                                                        have BK172 := n2_
                                                                        have HB := n3_
                                                                        clear n0_ n1_ n2_ n3_
                                                                        have p174 : 0 ≤ ((ji21) : Int) := of_decide_eq_true (by first | (with_reducible assumption) | assumption)
                                                                        have q174 : (ji21) < (l0.length : Int) := of_decide_eq_true (by first | (with_reducible assumption) | assumption)
                                                                        obtain ⟨ad174, e174, hx174_0⟩ := Kd.at_int HR0.out (ji21) p174 q174
                                                                        have hw174_0 := hx174_0
                                                                        obtain rfl : ad170 = ad174 := (by injection e174)
                                                                        replace hx174_0 := (HB.out.cell (World.block_lt_of_cell? w _ hx174_0)).trans hx174_0
                                                                        replace p174 := eq_true p174
                                                                        replace q174 := eq_true q174
                                                                        have p175 : 0 ≤ ((ji24) : Int) := of_decide_eq_true (by first | (with_reducible assumption) | assumption)
                                                                        have q175 : (ji24) < (l0.length : Int) := of_decide_eq_true (by first | (with_reducible assumption) | assumption)
                                                                        obtain ⟨ad175, e175, hx175_0⟩ := Kd.at_int HR0.out (ji24) p175 q175
                                                                        have hw175_0 := hx175_0
                                                                        obtain rfl : ad170 = ad175 := (by injection e175)
                                                                        replace hx175_0 := (HB.out.cell (World.block_lt_of_cell? w _ hx175_0)).trans hx175_0
                                                                        replace p175 := eq_true p175
                                                                        replace q175 := eq_true q175
                                                                        have p176 : 0 ≤ ((ji27) : Int) := of_decide_eq_true (by first | (with_reducible assumption) | assumption)
                                                                        have q176 : (ji27) < (l0.length : Int) := of_decide_eq_true (by first | (with_reducible assumption) | assumption)
                                                                        obtain ⟨ad176, e176, hx176_0⟩ := Kd.at_int HR0.out (ji27) p176 q176
                                                                        have hw176_0 := hx176_0
                                                                        obtain rfl : ad170 = ad176 := (by injection e176)
                                                                        replace hx176_0 := (HB.out.cell (World.block_lt_of_cell? w _ hx176_0)).trans hx176_0
                                                                        replace p176 := eq_true p176
                                                                        replace q176 := eq_true q176
                                                                        have p177 : 0 ≤ ((ji30) : Int) := of_decide_eq_true (by first | (with_reducible assumption) | assumption)
                                                                        have q177 : (ji30) < (l0.length : Int) := of_decide_eq_true (by first | (with_reducible assumption) | assumption)
                                                                        obtain ⟨ad177, e177, hx177_0⟩ := Kd.at_int HR0.out (ji30) p177 q177
                                                                        have hw177_0 := hx177_0
                                                                        obtain rfl : ad170 = ad177 := (by injection e177)
                                                                        replace hx177_0 := (HB.out.cell (World.block_lt_of_cell? w _ hx177_0)).trans hx177_0
                                                                        replace p177 := eq_true p177
                                                                        replace q177 := eq_true q177
                                                                        refine start_ (n := 31) (S := fun w' => w'.cell? (ad170.add ((ji21)).toNat) = some (.int .u8 (rd l0 (ji21))) ∧ w'.cell? (ad170.add ((ji24)).toNat) = some (.int .u8 (rd l0 (ji24))) ∧ w'.cell? (ad170.add ((ji27)).toNat) = some (.int .u8 (rd l0 (ji27))) ∧ w'.cell? (ad170.add ((ji30)).toNat) = some (.int .u8 (rd l0 (ji30)))) (ds := []) #[false, false, false, false, false, false, false, false, false, false, false, false, false, false, false, false, false, false, false, false, false, false, false, false, false, false, false, false, false, false, false] (by kernel_rfl) rfl rfl ⟨((HB.out.cell (World.block_lt_of_cell? w _ hw174_0)).trans hw174_0), ((HB.out.cell (World.block_lt_of_cell? w _ hw175_0)).trans hw175_0), ((HB.out.cell (World.block_lt_of_cell? w _ hw176_0)).trans hw176_0), ((HB.out.cell (World.block_lt_of_cell? w _ hw177_0)).trans hw177_0)⟩ (fun hHeld => ?_); refine with_tabW haymowref02_Read.tab20 haymowref02_Read.bits20 (fun HT_ HW_ => ?_)
                                                                        generalize wr.drew = w46 at HO_4 HO_173001 BK172 HB hx174_0 hx175_0 hx176_0 hx177_0 hHeld ⊢
                                                                        refine pure_ (i := 0) (N := some 62) (v := ?_) (a' := ?_) #[true, false, false, false, false, false, false, false, false, false, false, false, false, false, false, false, false, false, false, false, false, false, false, false, false, false, false, false, false, false, false] rfl rfl (any_of HT_.out (by kernel_rfl)) (fun _ _ _ h => h) (Or.inl ⟨by rfl, ?_⟩) ?_ ?_
                                                                        rotate_left
                                                                        · intro w'
                                                                          go_simp
                                                                          with_reducible rfl
                                                                        rotate_left
                                                                        · simp only [Act.put, List.setIfInBounds_toArray, List.set_cons_zero, List.set_cons_succ, i64_w, i32_w]
                                                                          rfl
                                                                        refine pure_ (i := 1) (N := some 63) (v := ?_) (a' := ?_) #[true, true, false, false, false, false, false, false, false, false, false, false, false, false, false, false, false, false, false, false, false, false, false, false, false, false, false, false, false, false, false] rfl rfl (any_of HT_.out (by kernel_rfl)) (fun _ _ _ h => h) (Or.inl ⟨by rfl, ?_⟩) ?_ ?_
                                                                        rotate_left
                                                                        · intro w'
                                                                          go_simp
                                                                          with_reducible rfl
                                                                        rotate_left
                                                                        · simp only [Act.put, List.setIfInBounds_toArray, List.set_cons_zero, List.set_cons_succ, i64_w, i32_w]
                                                                          rfl
                                                                        refine pure_ (i := 2) (N := some 64) (v := ?_) (a' := ?_) #[true, true, true, false, false, false, false, false, false, false, false, false, false, false, false, false, false, false, false, false, false, false, false, false, false, false, false, false, false, false, false] rfl rfl (any_of HT_.out (by kernel_rfl)) (fun _ _ _ h => h) (Or.inl ⟨by rfl, ?_⟩) ?_ ?_
                                                                        rotate_left
                                                                        · intro w'
                                                                          go_simp
                                                                          with_reducible rfl
                                                                        rotate_left
                                                                        · simp only [Act.put, List.setIfInBounds_toArray, List.set_cons_zero, List.set_cons_succ, i64_w, i32_w]
                                                                          rfl
                                                                        refine pure_ (i := 3) (N := some 65) (v := ?_) (a' := ?_) #[true, true, true, true, false, false, false, false, false, false, false, false, false, false, false, false, false, false, false, false, false, false, false, false, false, false, false, false, false, false, false] rfl rfl (any_of HT_.out (by kernel_rfl)) (fun _ _ _ h => h) (Or.inl ⟨by rfl, ?_⟩) ?_ ?_
                                                                        rotate_left
                                                                        · intro w'
                                                                          go_simp
                                                                          with_reducible rfl
                                                                        rotate_left
                                                                        · simp only [Act.put, List.setIfInBounds_toArray, List.set_cons_zero, List.set_cons_succ, i64_w, i32_w]
                                                                          rfl
                                                                        refine pure_ (i := 6) (N := some 68) (v := ?_) (a' := ?_) #[true, true, true, true, false, false, true, false, false, false, false, false, false, false, false, false, false, false, false, false, false, false, false, false, false, false, false, false, false, false, false] rfl rfl (any_of HT_.out (by kernel_rfl)) (fun _ _ _ h => h) (Or.inl ⟨by rfl, ?_⟩) ?_ ?_
                                                                        rotate_left
                                                                        · intro w'
                                                                          go_simp
                                                                          with_reducible rfl
                                                                        rotate_left
                                                                        · simp only [Act.put, List.setIfInBounds_toArray, List.set_cons_zero, List.set_cons_succ, i64_w, i32_w]
                                                                          rfl
                                                                        refine pure_ (i := 7) (N := some 69) (v := ?_) (a' := ?_) #[true, true, true, true, false, false, true, true, false, false, false, false, false, false, false, false, false, false, false, false, false, false, false, false, false, false, false, false, false, false, false] rfl rfl (any_of HT_.out (by kernel_rfl)) (fun _ _ _ h => h) (Or.inl ⟨by rfl, ?_⟩) ?_ ?_
                                                                        rotate_left
                                                                        · intro w'
                                                                          go_simp
                                                                          with_reducible rfl
                                                                        rotate_left
                                                                        · simp only [Act.put, List.setIfInBounds_toArray, List.set_cons_zero, List.set_cons_succ, i64_w, i32_w]
                                                                          rfl
                                                                        refine pure_ (i := 8) (N := some 70) (v := ?_) (a' := ?_) #[true, true, true, true, false, false, true, true, true, false, false, false, false, false, false, false, false, false, false, false, false, false, false, false, false, false, false, false, false, false, false] rfl rfl (any_of HT_.out (by kernel_rfl)) (fun _ _ _ h => h) (Or.inl ⟨by rfl, ?_⟩) ?_ ?_
                                                                        rotate_left
                                                                        · intro w'
                                                                          go_simp
                                                                          with_reducible rfl
                                                                        rotate_left
                                                                        · simp only [Act.put, List.setIfInBounds_toArray, List.set_cons_zero, List.set_cons_succ, i64_w, i32_w]
                                                                          rfl
                                                                        refine pure_ (i := 9) (N := some 71) (v := ?_) (a' := ?_) #[true, true, true, true, false, false, true, true, true, true, false, false, false, false, false, false, false, false, false, false, false, false, false, false, false, false, false, false, false, false, false] rfl rfl (any_of HT_.out (by kernel_rfl)) (fun _ _ _ h => h) (Or.inl ⟨by rfl, ?_⟩) ?_ ?_
                                                                        rotate_left
                                                                        · intro w'
                                                                          go_simp
                                                                          with_reducible rfl
                                                                        rotate_left
                                                                        · simp only [Act.put, List.setIfInBounds_toArray, List.set_cons_zero, List.set_cons_succ, i64_w, i32_w]
                                                                          rfl
                                                                        refine pure_ (i := 12) (N := some 74) (v := ?_) (a' := ?_) #[true, true, true, true, false, false, true, true, true, true, false, false, true, false, false, false, false, false, false, false, false, false, false, false, false, false, false, false, false, false, false] rfl rfl (any_of HT_.out (by kernel_rfl)) (fun _ _ _ h => h) (Or.inl ⟨by rfl, ?_⟩) ?_ ?_
                                                                        rotate_left
                                                                        · intro w'
                                                                          go_simp
                                                                          with_reducible rfl
                                                                        rotate_left
                                                                        · simp only [Act.put, List.setIfInBounds_toArray, List.set_cons_zero, List.set_cons_succ, i64_w, i32_w]
                                                                          rfl
                                                                        refine pure_ (i := 13) (N := some 75) (v := ?_) (a' := ?_) #[true, true, true, true, false, false, true, true, true, true, false, false, true, true, false, false, false, false, false, false, false, false, false, false, false, false, false, false, false, false, false] rfl rfl (any_of HT_.out (by kernel_rfl)) (fun _ _ _ h => h) (Or.inl ⟨by rfl, ?_⟩) ?_ ?_
                                                                        rotate_left
                                                                        · intro w'
                                                                          go_simp
                                                                          with_reducible rfl
                                                                        rotate_left
                                                                        · simp only [Act.put, List.setIfInBounds_toArray, List.set_cons_zero, List.set_cons_succ, i64_w, i32_w]
                                                                          rfl
                                                                        refine pure_ (i := 14) (N := some 76) (v := ?_) (a' := ?_) #[true, true, true, true, false, false, true, true, true, true, false, false, true, true, true, false, false, false, false, false, false, false, false, false, false, false, false, false, false, false, false] rfl rfl (any_of HT_.out (by kernel_rfl)) (fun _ _ _ h => h) (Or.inl ⟨by rfl, ?_⟩) ?_ ?_
                                                                        rotate_left
                                                                        · intro w'
                                                                          go_simp
                                                                          with_reducible rfl
                                                                        rotate_left
                                                                        · simp only [Act.put, List.setIfInBounds_toArray, List.set_cons_zero, List.set_cons_succ, i64_w, i32_w]
                                                                          rfl
                                                                        refine pure_ (i := 15) (N := some 77) (v := ?_) (a' := ?_) #[true, true, true, true, false, false, true, true, true, true, false, false, true, true, true, true, false, false, false, false, false, false, false, false, false, false, false, false, false, false, false] rfl rfl (any_of HT_.out (by kernel_rfl)) (fun _ _ _ h => h) (Or.inl ⟨by rfl, ?_⟩) ?_ ?_
                                                                        rotate_left
                                                                        · intro w'
                                                                          go_simp
                                                                          with_reducible rfl
                                                                        rotate_left
                                                                        · simp only [Act.put, List.setIfInBounds_toArray, List.set_cons_zero, List.set_cons_succ, i64_w, i32_w]
                                                                          rfl
                                                                        refine pure_ (i := 18) (N := some 80) (v := ?_) (a' := ?_) #[true, true, true, true, false, false, true, true, true, true, false, false, true, true, true, true, false, false, true, false, false, false, false, false, false, false, false, false, false, false, false] rfl rfl (any_of HT_.out (by kernel_rfl)) (fun _ _ _ h => h) (Or.inl ⟨by rfl, ?_⟩) ?_ ?_
                                                                        rotate_left
                                                                        · intro w'
                                                                          go_simp
                                                                          with_reducible rfl
                                                                        rotate_left
                                                                        · simp only [Act.put, List.setIfInBounds_toArray, List.set_cons_zero, List.set_cons_succ, i64_w, i32_w]
                                                                          rfl
                                                                        refine pure_ (i := 19) (N := some 81) (v := ?_) (a' := ?_) #[true, true, true, true, false, false, true, true, true, true, false, false, true, true, true, true, false, false, true, true, false, false, false, false, false, false, false, false, false, false, false] rfl rfl (any_of HT_.out (by kernel_rfl)) (fun _ _ _ h => h) (Or.inl ⟨by rfl, ?_⟩) ?_ ?_
                                                                        rotate_left
                                                                        · intro w'
                                                                          go_simp
                                                                          with_reducible rfl
                                                                        rotate_left
                                                                        · simp only [Act.put, List.setIfInBounds_toArray, List.set_cons_zero, List.set_cons_succ, i64_w, i32_w]
                                                                          rfl
                                                                        refine pure_ (i := 20) (N := some 82) (v := ?_) (a' := ?_) #[true, true, true, true, false, false, true, true, true, true, false, false, true, true, true, true, false, false, true, true, true, false, false, false, false, false, false, false, false, false, false] rfl rfl (any_of HT_.out (by kernel_rfl)) (fun _ _ _ h => h) (Or.inl ⟨by rfl, ?_⟩) ?_ ?_
                                                                        rotate_left
                                                                        · intro w'
                                                                          go_simp
                                                                          with_reducible rfl
                                                                        rotate_left
                                                                        · simp only [Act.put, List.setIfInBounds_toArray, List.set_cons_zero, List.set_cons_succ, i64_w, i32_w]
                                                                          rfl
                                                                        refine pure_ (i := 21) (N := some 83) (v := ?_) (a' := ?_) #[true, true, true, true, false, false, true, true, true, true, false, false, true, true, true, true, false, false, true, true, true, true, false, false, false, false, false, false, false, false, false] rfl rfl (any_of HT_.out (by kernel_rfl)) (fun _ _ _ h => h) (Or.inl ⟨by rfl, ?_⟩) ?_ ?_
                                                                        rotate_left
                                                                        · intro w'
                                                                          go_simp
                                                                          with_reducible rfl
                                                                        rotate_left
                                                                        · simp only [Act.put, List.setIfInBounds_toArray, List.set_cons_zero, List.set_cons_succ, i64_w, i32_w]
                                                                          rfl
                                                                        refine take_ (i := 4) (N := some 66) (v := ?_) (a' := ?_) #[true, true, true, true, true, false, true, true, true, true, false, false, true, true, true, true, false, false, true, true, true, true, false, false, false, false, false, false, false, false, false] rfl rfl (take_ofW HT_.out HW_.out (by kernel_rfl)) (fun _ _ _ h => h) (Or.inl ⟨by rfl, ?_⟩) hHeld ?_ ?_
                                                                        rotate_left
                                                                        · rintro w' ⟨s0, s1, s2, s3⟩
                                                                          go_simp
                                                                          with_reducible rfl
                                                                        rotate_left
                                                                        · simp only [Act.put, List.setIfInBounds_toArray, List.set_cons_zero, List.set_cons_succ, i64_w, i32_w]
                                                                          rfl
                                                                        refine pure_ (i := 5) (N := some 67) (v := ?_) (a' := ?_) #[true, true, true, true, true, true, true, true, true, true, false, false, true, true, true, true, false, false, true, true, true, true, false, false, false, false, false, false, false, false, false] rfl rfl (any_of HT_.out (by kernel_rfl)) (fun _ _ _ h => h) (Or.inl ⟨by rfl, ?_⟩) ?_ ?_
                                                                        rotate_left
                                                                        · intro w'
                                                                          go_simp
                                                                          with_reducible rfl
                                                                        rotate_left
                                                                        · simp only [Act.put, List.setIfInBounds_toArray, List.set_cons_zero, List.set_cons_succ, i64_w, i32_w]
                                                                          rfl
                                                                        refine take_ (i := 10) (N := some 72) (v := ?_) (a' := ?_) #[true, true, true, true, true, true, true, true, true, true, true, false, true, true, true, true, false, false, true, true, true, true, false, false, false, false, false, false, false, false, false] rfl rfl (take_ofW HT_.out HW_.out (by kernel_rfl)) (fun _ _ _ h => h) (Or.inl ⟨by rfl, ?_⟩) hHeld ?_ ?_
                                                                        rotate_left
                                                                        · rintro w' ⟨s0, s1, s2, s3⟩
                                                                          go_simp
                                                                          with_reducible rfl
                                                                        rotate_left
                                                                        · simp only [Act.put, List.setIfInBounds_toArray, List.set_cons_zero, List.set_cons_succ, i64_w, i32_w]
                                                                          rfl
                                                                        refine pure_ (i := 11) (N := some 73) (v := ?_) (a' := ?_) #[true, true, true, true, true, true, true, true, true, true, true, true, true, true, true, true, false, false, true, true, true, true, false, false, false, false, false, false, false, false, false] rfl rfl (any_of HT_.out (by kernel_rfl)) (fun _ _ _ h => h) (Or.inl ⟨by rfl, ?_⟩) ?_ ?_
                                                                        rotate_left
                                                                        · intro w'
                                                                          go_simp
                                                                          with_reducible rfl
                                                                        rotate_left
                                                                        · simp only [Act.put, List.setIfInBounds_toArray, List.set_cons_zero, List.set_cons_succ, i64_w, i32_w]
                                                                          rfl
                                                                        refine take_ (i := 16) (N := some 78) (v := ?_) (a' := ?_) #[true, true, true, true, true, true, true, true, true, true, true, true, true, true, true, true, true, false, true, true, true, true, false, false, false, false, false, false, false, false, false] rfl rfl (take_ofW HT_.out HW_.out (by kernel_rfl)) (fun _ _ _ h => h) (Or.inl ⟨by rfl, ?_⟩) hHeld ?_ ?_
                                                                        rotate_left
                                                                        · rintro w' ⟨s0, s1, s2, s3⟩
                                                                          go_simp
                                                                          with_reducible rfl
                                                                        rotate_left
                                                                        · simp only [Act.put, List.setIfInBounds_toArray, List.set_cons_zero, List.set_cons_succ, i64_w, i32_w]
                                                                          rfl
                                                                        refine pure_ (i := 17) (N := some 79) (v := ?_) (a' := ?_) #[true, true, true, true, true, true, true, true, true, true, true, true, true, true, true, true, true, true, true, true, true, true, false, false, false, false, false, false, false, false, false] rfl rfl (any_of HT_.out (by kernel_rfl)) (fun _ _ _ h => h) (Or.inl ⟨by rfl, ?_⟩) ?_ ?_
                                                                        rotate_left
                                                                        · intro w'
                                                                          go_simp
                                                                          with_reducible rfl
                                                                        rotate_left
                                                                        · simp only [Act.put, List.setIfInBounds_toArray, List.set_cons_zero, List.set_cons_succ, i64_w, i32_w]
                                                                          rfl
                                                                        refine take_ (i := 22) (N := some 84) (v := ?_) (a' := ?_) #[true, true, true, true, true, true, true, true, true, true, true, true, true, true, true, true, true, true, true, true, true, true, true, false, false, false, false, false, false, false, false] rfl rfl (take_ofW HT_.out HW_.out (by kernel_rfl)) (fun _ _ _ h => h) (Or.inl ⟨by rfl, ?_⟩) hHeld ?_ ?_
                                                                        rotate_left
                                                                        · rintro w' ⟨s0, s1, s2, s3⟩
                                                                          go_simp
                                                                          with_reducible rfl
                                                                        rotate_left
                                                                        · simp only [Act.put, List.setIfInBounds_toArray, List.set_cons_zero, List.set_cons_succ, i64_w, i32_w]
                                                                          rfl
                                                                        refine pure_ (i := 23) (N := some 85) (v := ?_) (a' := ?_) #[true, true, true, true, true, true, true, true, true, true, true, true, true, true, true, true, true, true, true, true, true, true, true, true, false, false, false, false, false, false, false] rfl rfl (any_of HT_.out (by kernel_rfl)) (fun _ _ _ h => h) (Or.inl ⟨by rfl, ?_⟩) ?_ ?_
                                                                        rotate_left
                                                                        · intro w'
                                                                          go_simp
                                                                          with_reducible rfl
                                                                        rotate_left
                                                                        · simp only [Act.put, List.setIfInBounds_toArray, List.set_cons_zero, List.set_cons_succ, i64_w, i32_w]
                                                                          rfl
                                                                        refine pure_ (i := 24) (N := some 86) (v := ?_) (a' := ?_) #[true, true, true, true, true, true, true, true, true, true, true, true, true, true, true, true, true, true, true, true, true, true, true, true, true, false, false, false, false, false, false] rfl rfl (any_of HT_.out (by kernel_rfl)) (fun _ _ _ h => h) (Or.inl ⟨by rfl, ?_⟩) ?_ ?_
                                                                        rotate_left
                                                                        · intro w'
                                                                          go_simp
                                                                          with_reducible rfl
                                                                        rotate_left
                                                                        · simp only [Act.put, List.setIfInBounds_toArray, List.set_cons_zero, List.set_cons_succ, i64_w, i32_w]
                                                                          rfl
                                                                        refine pure_ (i := 25) (N := some 87) (v := ?_) (a' := ?_) #[true, true, true, true, true, true, true, true, true, true, true, true, true, true, true, true, true, true, true, true, true, true, true, true, true, true, false, false, false, false, false] rfl rfl (any_of HT_.out (by kernel_rfl)) (fun _ _ _ h => h) (Or.inl ⟨by rfl, ?_⟩) ?_ ?_
                                                                        rotate_left
                                                                        · intro w'
                                                                          go_simp
                                                                          with_reducible rfl
                                                                        rotate_left
                                                                        · simp only [Act.put, List.setIfInBounds_toArray, List.set_cons_zero, List.set_cons_succ, i64_w, i32_w]
                                                                          rfl
                                                                        refine pure_ (i := 26) (N := some 88) (v := ?_) (a' := ?_) #[true, true, true, true, true, true, true, true, true, true, true, true, true, true, true, true, true, true, true, true, true, true, true, true, true, true, true, false, false, false, false] rfl rfl (any_of HT_.out (by kernel_rfl)) (fun _ _ _ h => h) (Or.inl ⟨by rfl, ?_⟩) ?_ ?_
                                                                        rotate_left
                                                                        · intro w'
                                                                          go_simp
                                                                          with_reducible rfl
                                                                        rotate_left
                                                                        · simp only [Act.put, List.setIfInBounds_toArray, List.set_cons_zero, List.set_cons_succ, i64_w, i32_w]
                                                                          rfl
                                                                        refine pure_ (i := 27) (N := some 89) (v := ?_) (a' := ?_) #[true, true, true, true, true, true, true, true, true, true, true, true, true, true, true, true, true, true, true, true, true, true, true, true, true, true, true, true, false, false, false] rfl rfl (any_of HT_.out (by kernel_rfl)) (fun _ _ _ h => h) (Or.inl ⟨by rfl, ?_⟩) ?_ ?_
                                                                        rotate_left
                                                                        · intro w'
                                                                          go_simp
                                                                          with_reducible rfl
                                                                        rotate_left
                                                                        · simp only [Act.put, List.setIfInBounds_toArray, List.set_cons_zero, List.set_cons_succ, i64_w, i32_w]
                                                                          rfl
                                                                        refine pure_ (i := 28) (N := some 90) (v := ?_) (a' := ?_) #[true, true, true, true, true, true, true, true, true, true, true, true, true, true, true, true, true, true, true, true, true, true, true, true, true, true, true, true, true, false, false] rfl rfl (any_of HT_.out (by kernel_rfl)) (fun _ _ _ h => h) (Or.inl ⟨by rfl, ?_⟩) ?_ ?_
                                                                        rotate_left
                                                                        · intro w'
                                                                          go_simp
                                                                          with_reducible rfl
                                                                        rotate_left
                                                                        · simp only [Act.put, List.setIfInBounds_toArray, List.set_cons_zero, List.set_cons_succ, i64_w, i32_w]
                                                                          rfl
                                                                        refine pure_ (i := 29) (N := some 91) (v := ?_) (a' := ?_) #[true, true, true, true, true, true, true, true, true, true, true, true, true, true, true, true, true, true, true, true, true, true, true, true, true, true, true, true, true, true, false] rfl rfl (any_of HT_.out (by kernel_rfl)) (fun _ _ _ h => h) (Or.inl ⟨by rfl, ?_⟩) ?_ ?_
                                                                        rotate_left
                                                                        · intro w'
                                                                          go_simp
                                                                          with_reducible rfl
                                                                        rotate_left
                                                                        · simp only [Act.put, List.setIfInBounds_toArray, List.set_cons_zero, List.set_cons_succ, i64_w, i32_w]
                                                                          rfl
                                                                        refine pure_ (i := 30) (N := some 10) (v := ?_) (a' := ?_) #[true, true, true, true, true, true, true, true, true, true, true, true, true, true, true, true, true, true, true, true, true, true, true, true, true, true, true, true, true, true, true] rfl rfl (any_of HT_.out (by kernel_rfl)) (fun _ _ _ h => h) (Or.inl ⟨by rfl, ?_⟩) ?_ ?_
                                                                        rotate_left
                                                                        · intro w'
                                                                          go_simp
                                                                          with_reducible rfl
                                                                        rotate_left
                                                                        · simp only [Act.put, List.setIfInBounds_toArray, List.set_cons_zero, List.set_cons_succ, i64_w, i32_w]
                                                                          rfl
                                                                        refine done_ (done_of HT_.out (by kernel_rfl)) ?_
                                                                        try go_wp2
                                                                        have n0_ := Aside0.mk (Kd.S_drew HO_4.out)
                                                                        have n1_ := Aside0.mk (Kd.R_drew HO_173001.out)
                                                                        have n2_ := Aside0.mk (blk_drew BK172.out)
                                                                        have n3_ := Aside0.mk (below_drew1 HB.out)
                                                                        clear HO_4
                                                                        clear HO_173001
                                                                        clear BK172
                                                                        clear HB
                                                                        have HO_4 := n0_
                                                                        have HO_173001 := n1_
                                                                        have BK172 := n2_
                                                                        have HB := n3_
                                                                        clear n0_ n1_ n2_ n3_
                                                                        have p178 : 0 ≤ (x5_3 : Int) := of_decide_eq_true (by first | (with_reducible assumption) | assumption)
                                                                        have q178 : x5_3 < (l0.length : Int) := of_decide_eq_true (by first | (with_reducible assumption) | assumption)
                                                                        obtain ⟨ad178, e178, hx178_0⟩ := Kd.at_int HR0.out x5_3 p178 q178
                                                                        have hw178_0 := hx178_0
                                                                        obtain rfl : ad170 = ad178 := (by injection e178)
                                                                        replace hx178_0 := (HB.out.cell (World.block_lt_of_cell? w _ hx178_0)).trans hx178_0
                                                                        replace p178 := eq_true p178
                                                                        replace q178 := eq_true q178
                                                                        have p179 : 0 ≤ ((ji36) : Int) := of_decide_eq_true (by first | (with_reducible assumption) | assumption)
                                                                        have q179 : (ji36) < (l0.length : Int) := of_decide_eq_true (by first | (with_reducible assumption) | assumption)
                                                                        obtain ⟨ad179, e179, hx179_0⟩ := Kd.at_int HR0.out (ji36) p179 q179
                                                                        have hw179_0 := hx179_0
                                                                        obtain rfl : ad170 = ad179 := (by injection e179)
                                                                        replace hx179_0 := (HB.out.cell (World.block_lt_of_cell? w _ hx179_0)).trans hx179_0
                                                                        replace p179 := eq_true p179
                                                                        replace q179 := eq_true q179
                                                                        have p180 : 0 ≤ ((ji39) : Int) := of_decide_eq_true (by first | (with_reducible assumption) | assumption)
                                                                        have q180 : (ji39) < (l0.length : Int) := of_decide_eq_true (by first | (with_reducible assumption) | assumption)
                                                                        obtain ⟨ad180, e180, hx180_0⟩ := Kd.at_int HR0.out (ji39) p180 q180
                                                                        have hw180_0 := hx180_0
                                                                        obtain rfl : ad170 = ad180 := (by injection e180)
                                                                        replace hx180_0 := (HB.out.cell (World.block_lt_of_cell? w _ hx180_0)).trans hx180_0
                                                                        replace p180 := eq_true p180
                                                                        replace q180 := eq_true q180
                                                                        have p181 : 0 ≤ ((ji42) : Int) := of_decide_eq_true (by first | (with_reducible assumption) | assumption)
                                                                        have q181 : (ji42) < (l0.length : Int) := of_decide_eq_true (by first | (with_reducible assumption) | assumption)
                                                                        obtain ⟨ad181, e181, hx181_0⟩ := Kd.at_int HR0.out (ji42) p181 q181
                                                                        have hw181_0 := hx181_0
                                                                        obtain rfl : ad170 = ad181 := (by injection e181)
                                                                        replace hx181_0 := (HB.out.cell (World.block_lt_of_cell? w _ hx181_0)).trans hx181_0
                                                                        replace p181 := eq_true p181
                                                                        replace q181 := eq_true q181
                                                                        refine start_ (n := 31) (S := fun w' => w'.cell? ⟨gb172, 0, none⟩ = some (.int .i64 (wrap64 (rd l0 x5_2))) ∧ w'.cell? ⟨gb172, 1, none⟩ = some (u173001) ∧ w'.cell? (ad170.add (x5_3).toNat) = some (.int .u8 (rd l0 x5_3)) ∧ w'.cell? (ad170.add ((ji36)).toNat) = some (.int .u8 (rd l0 (ji36))) ∧ w'.cell? (ad170.add ((ji39)).toNat) = some (.int .u8 (rd l0 (ji39))) ∧ w'.cell? (ad170.add ((ji42)).toNat) = some (.int .u8 (rd l0 (ji42)))) (ds := [30]) #[false, false, false, false, false, false, false, false, false, false, false, false, false, false, false, false, false, false, false, false, false, false, false, false, false, false, false, false, false, false, false] (by kernel_rfl) rfl rfl ⟨(blk_cell BK172.out 0).trans rfl, (blk_cell BK172.out 1).trans rfl, ((HB.out.cell (World.block_lt_of_cell? w _ hw178_0)).trans hw178_0), ((HB.out.cell (World.block_lt_of_cell? w _ hw179_0)).trans hw179_0), ((HB.out.cell (World.block_lt_of_cell? w _ hw180_0)).trans hw180_0), ((HB.out.cell (World.block_lt_of_cell? w _ hw181_0)).trans hw181_0)⟩ (fun hHeld => ?_); refine with_tabW haymowref02_Read.tab23 haymowref02_Read.bits23 (fun HT_ HW_ => ?_)
                                                                        generalize w46.drew = w47 at HO_4 HO_173001 BK172 HB hx178_0 hx179_0 hx180_0 hx181_0 hHeld ⊢
                                                                        refine pure_ (i := 0) (N := some 96) (v := ?_) (a' := ?_) #[true, false, false, false, false, false, false, false, false, false, false, false, false, false, false, false, false, false, false, false, false, false, false, false, false, false, false, false, false, false, false] rfl rfl (any_of HT_.out (by kernel_rfl)) (fun _ _ _ h => h) (Or.inl ⟨by rfl, ?_⟩) ?_ ?_
                                                                        rotate_left
                                                                        · intro w'
                                                                          go_simp
                                                                          with_reducible rfl
                                                                        rotate_left
                                                                        · simp only [Act.put, List.setIfInBounds_toArray, List.set_cons_zero, List.set_cons_succ, i64_w, i32_w]
                                                                          rfl
                                                                        refine pure_ (i := 2) (N := some 98) (v := ?_) (a' := ?_) #[true, false, true, false, false, false, false, false, false, false, false, false, false, false, false, false, false, false, false, false, false, false, false, false, false, false, false, false, false, false, false] rfl rfl (any_of HT_.out (by kernel_rfl)) (fun _ _ _ h => h) (Or.inl ⟨by rfl, ?_⟩) ?_ ?_
                                                                        rotate_left
                                                                        · intro w'
                                                                          go_simp
                                                                          with_reducible rfl
                                                                        rotate_left
                                                                        · simp only [Act.put, List.setIfInBounds_toArray, List.set_cons_zero, List.set_cons_succ, i64_w, i32_w]
                                                                          rfl
                                                                        refine pure_ (i := 3) (N := some 99) (v := ?_) (a' := ?_) #[true, false, true, true, false, false, false, false, false, false, false, false, false, false, false, false, false, false, false, false, false, false, false, false, false, false, false, false, false, false, false] rfl rfl (any_of HT_.out (by kernel_rfl)) (fun _ _ _ h => h) (Or.inl ⟨by rfl, ?_⟩) ?_ ?_
                                                                        rotate_left
                                                                        · intro w'
                                                                          go_simp
                                                                          with_reducible rfl
                                                                        rotate_left
                                                                        · simp only [Act.put, List.setIfInBounds_toArray, List.set_cons_zero, List.set_cons_succ, i64_w, i32_w]
                                                                          rfl
                                                                        refine pure_ (i := 4) (N := some 100) (v := ?_) (a' := ?_) #[true, false, true, true, true, false, false, false, false, false, false, false, false, false, false, false, false, false, false, false, false, false, false, false, false, false, false, false, false, false, false] rfl rfl (any_of HT_.out (by kernel_rfl)) (fun _ _ _ h => h) (Or.inl ⟨by rfl, ?_⟩) ?_ ?_
                                                                        rotate_left
                                                                        · intro w'
                                                                          go_simp
                                                                          with_reducible rfl
                                                                        rotate_left
                                                                        · simp only [Act.put, List.setIfInBounds_toArray, List.set_cons_zero, List.set_cons_succ, i64_w, i32_w]
                                                                          rfl
                                                                        refine pure_ (i := 7) (N := some 103) (v := ?_) (a' := ?_) #[true, false, true, true, true, false, false, true, false, false, false, false, false, false, false, false, false, false, false, false, false, false, false, false, false, false, false, false, false, false, false] rfl rfl (any_of HT_.out (by kernel_rfl)) (fun _ _ _ h => h) (Or.inl ⟨by rfl, ?_⟩) ?_ ?_
                                                                        rotate_left
                                                                        · intro w'
                                                                          go_simp
                                                                          with_reducible rfl
                                                                        rotate_left
                                                                        · simp only [Act.put, List.setIfInBounds_toArray, List.set_cons_zero, List.set_cons_succ, i64_w, i32_w]
                                                                          rfl
                                                                        refine pure_ (i := 8) (N := some 104) (v := ?_) (a' := ?_) #[true, false, true, true, true, false, false, true, true, false, false, false, false, false, false, false, false, false, false, false, false, false, false, false, false, false, false, false, false, false, false] rfl rfl (any_of HT_.out (by kernel_rfl)) (fun _ _ _ h => h) (Or.inl ⟨by rfl, ?_⟩) ?_ ?_
                                                                        rotate_left
                                                                        · intro w'
                                                                          go_simp
                                                                          with_reducible rfl
                                                                        rotate_left
                                                                        · simp only [Act.put, List.setIfInBounds_toArray, List.set_cons_zero, List.set_cons_succ, i64_w, i32_w]
                                                                          rfl
                                                                        refine pure_ (i := 9) (N := some 105) (v := ?_) (a' := ?_) #[true, false, true, true, true, false, false, true, true, true, false, false, false, false, false, false, false, false, false, false, false, false, false, false, false, false, false, false, false, false, false] rfl rfl (any_of HT_.out (by kernel_rfl)) (fun _ _ _ h => h) (Or.inl ⟨by rfl, ?_⟩) ?_ ?_
                                                                        rotate_left
                                                                        · intro w'
                                                                          go_simp
                                                                          with_reducible rfl
                                                                        rotate_left
                                                                        · simp only [Act.put, List.setIfInBounds_toArray, List.set_cons_zero, List.set_cons_succ, i64_w, i32_w]
                                                                          rfl
                                                                        refine pure_ (i := 10) (N := some 106) (v := ?_) (a' := ?_) #[true, false, true, true, true, false, false, true, true, true, true, false, false, false, false, false, false, false, false, false, false, false, false, false, false, false, false, false, false, false, false] rfl rfl (any_of HT_.out (by kernel_rfl)) (fun _ _ _ h => h) (Or.inl ⟨by rfl, ?_⟩) ?_ ?_
                                                                        rotate_left
                                                                        · intro w'
                                                                          go_simp
                                                                          with_reducible rfl
                                                                        rotate_left
                                                                        · simp only [Act.put, List.setIfInBounds_toArray, List.set_cons_zero, List.set_cons_succ, i64_w, i32_w]
                                                                          rfl
                                                                        refine pure_ (i := 13) (N := some 109) (v := ?_) (a' := ?_) #[true, false, true, true, true, false, false, true, true, true, true, false, false, true, false, false, false, false, false, false, false, false, false, false, false, false, false, false, false, false, false] rfl rfl (any_of HT_.out (by kernel_rfl)) (fun _ _ _ h => h) (Or.inl ⟨by rfl, ?_⟩) ?_ ?_
                                                                        rotate_left
                                                                        · intro w'
                                                                          go_simp
                                                                          with_reducible rfl
                                                                        rotate_left
                                                                        · simp only [Act.put, List.setIfInBounds_toArray, List.set_cons_zero, List.set_cons_succ, i64_w, i32_w]
                                                                          rfl
                                                                        refine pure_ (i := 14) (N := some 110) (v := ?_) (a' := ?_) #[true, false, true, true, true, false, false, true, true, true, true, false, false, true, true, false, false, false, false, false, false, false, false, false, false, false, false, false, false, false, false] rfl rfl (any_of HT_.out (by kernel_rfl)) (fun _ _ _ h => h) (Or.inl ⟨by rfl, ?_⟩) ?_ ?_
                                                                        rotate_left
                                                                        · intro w'
                                                                          go_simp
                                                                          with_reducible rfl
                                                                        rotate_left
                                                                        · simp only [Act.put, List.setIfInBounds_toArray, List.set_cons_zero, List.set_cons_succ, i64_w, i32_w]
                                                                          rfl
                                                                        refine pure_ (i := 15) (N := some 111) (v := ?_) (a' := ?_) #[true, false, true, true, true, false, false, true, true, true, true, false, false, true, true, true, false, false, false, false, false, false, false, false, false, false, false, false, false, false, false] rfl rfl (any_of HT_.out (by kernel_rfl)) (fun _ _ _ h => h) (Or.inl ⟨by rfl, ?_⟩) ?_ ?_
                                                                        rotate_left
                                                                        · intro w'
                                                                          go_simp
                                                                          with_reducible rfl
                                                                        rotate_left
                                                                        · simp only [Act.put, List.setIfInBounds_toArray, List.set_cons_zero, List.set_cons_succ, i64_w, i32_w]
                                                                          rfl
                                                                        refine pure_ (i := 16) (N := some 112) (v := ?_) (a' := ?_) #[true, false, true, true, true, false, false, true, true, true, true, false, false, true, true, true, true, false, false, false, false, false, false, false, false, false, false, false, false, false, false] rfl rfl (any_of HT_.out (by kernel_rfl)) (fun _ _ _ h => h) (Or.inl ⟨by rfl, ?_⟩) ?_ ?_
                                                                        rotate_left
                                                                        · intro w'
                                                                          go_simp
                                                                          with_reducible rfl
                                                                        rotate_left
                                                                        · simp only [Act.put, List.setIfInBounds_toArray, List.set_cons_zero, List.set_cons_succ, i64_w, i32_w]
                                                                          rfl
                                                                        refine pure_ (i := 19) (N := some 115) (v := ?_) (a' := ?_) #[true, false, true, true, true, false, false, true, true, true, true, false, false, true, true, true, true, false, false, true, false, false, false, false, false, false, false, false, false, false, false] rfl rfl (any_of HT_.out (by kernel_rfl)) (fun _ _ _ h => h) (Or.inl ⟨by rfl, ?_⟩) ?_ ?_
                                                                        rotate_left
                                                                        · intro w'
                                                                          go_simp
                                                                          with_reducible rfl
                                                                        rotate_left
                                                                        · simp only [Act.put, List.setIfInBounds_toArray, List.set_cons_zero, List.set_cons_succ, i64_w, i32_w]
                                                                          rfl
                                                                        refine pure_ (i := 20) (N := some 116) (v := ?_) (a' := ?_) #[true, false, true, true, true, false, false, true, true, true, true, false, false, true, true, true, true, false, false, true, true, false, false, false, false, false, false, false, false, false, false] rfl rfl (any_of HT_.out (by kernel_rfl)) (fun _ _ _ h => h) (Or.inl ⟨by rfl, ?_⟩) ?_ ?_
                                                                        rotate_left
                                                                        · intro w'
                                                                          go_simp
                                                                          with_reducible rfl
                                                                        rotate_left
                                                                        · simp only [Act.put, List.setIfInBounds_toArray, List.set_cons_zero, List.set_cons_succ, i64_w, i32_w]
                                                                          rfl
                                                                        refine pure_ (i := 21) (N := some 117) (v := ?_) (a' := ?_) #[true, false, true, true, true, false, false, true, true, true, true, false, false, true, true, true, true, false, false, true, true, true, false, false, false, false, false, false, false, false, false] rfl rfl (any_of HT_.out (by kernel_rfl)) (fun _ _ _ h => h) (Or.inl ⟨by rfl, ?_⟩) ?_ ?_
                                                                        rotate_left
                                                                        · intro w'
                                                                          go_simp
                                                                          with_reducible rfl
                                                                        rotate_left
                                                                        · simp only [Act.put, List.setIfInBounds_toArray, List.set_cons_zero, List.set_cons_succ, i64_w, i32_w]
                                                                          rfl
                                                                        refine pure_ (i := 22) (N := some 118) (v := ?_) (a' := ?_) #[true, false, true, true, true, false, false, true, true, true, true, false, false, true, true, true, true, false, false, true, true, true, true, false, false, false, false, false, false, false, false] rfl rfl (any_of HT_.out (by kernel_rfl)) (fun _ _ _ h => h) (Or.inl ⟨by rfl, ?_⟩) ?_ ?_
                                                                        rotate_left
                                                                        · intro w'
                                                                          go_simp
                                                                          with_reducible rfl
                                                                        rotate_left
                                                                        · simp only [Act.put, List.setIfInBounds_toArray, List.set_cons_zero, List.set_cons_succ, i64_w, i32_w]
                                                                          rfl
                                                                        refine pure_ (i := 25) (N := some 121) (v := ?_) (a' := ?_) #[true, false, true, true, true, false, false, true, true, true, true, false, false, true, true, true, true, false, false, true, true, true, true, false, false, true, false, false, false, false, false] rfl rfl (any_of HT_.out (by kernel_rfl)) (fun _ _ _ h => h) (Or.inl ⟨by rfl, ?_⟩) ?_ ?_
                                                                        rotate_left
                                                                        · intro w'
                                                                          go_simp
                                                                          with_reducible rfl
                                                                        rotate_left
                                                                        · simp only [Act.put, List.setIfInBounds_toArray, List.set_cons_zero, List.set_cons_succ, i64_w, i32_w]
                                                                          rfl
                                                                        refine take_ (i := 1) (N := some 97) (v := ?_) (a' := ?_) #[true, true, true, true, true, false, false, true, true, true, true, false, false, true, true, true, true, false, false, true, true, true, true, false, false, true, false, false, false, false, false] rfl rfl (take_ofW HT_.out HW_.out (by kernel_rfl)) (fun _ _ _ h => h) (Or.inl ⟨by rfl, ?_⟩) hHeld ?_ ?_
                                                                        rotate_left
                                                                        · rintro w' ⟨s0, s1, s2, s3, s4, s5⟩
                                                                          go_simp
                                                                          with_reducible rfl
                                                                        rotate_left
                                                                        · simp only [Act.put, List.setIfInBounds_toArray, List.set_cons_zero, List.set_cons_succ, i64_w, i32_w]
                                                                          rfl
                                                                        refine take_ (i := 5) (N := some 101) (v := ?_) (a' := ?_) #[true, true, true, true, true, true, false, true, true, true, true, false, false, true, true, true, true, false, false, true, true, true, true, false, false, true, false, false, false, false, false] rfl rfl (take_ofW HT_.out HW_.out (by kernel_rfl)) (fun _ _ _ h => h) (Or.inl ⟨by rfl, ?_⟩) hHeld ?_ ?_
                                                                        rotate_left
                                                                        · rintro w' ⟨s0, s1, s2, s3, s4, s5⟩
                                                                          go_simp
                                                                          with_reducible rfl
                                                                        rotate_left
                                                                        · simp only [Act.put, List.setIfInBounds_toArray, List.set_cons_zero, List.set_cons_succ, i64_w, i32_w]
                                                                          rfl
                                                                        refine pure_ (i := 6) (N := some 102) (v := ?_) (a' := ?_) #[true, true, true, true, true, true, true, true, true, true, true, false, false, true, true, true, true, false, false, true, true, true, true, false, false, true, false, false, false, false, false] rfl rfl (any_of HT_.out (by kernel_rfl)) (fun _ _ _ h => h) (Or.inl ⟨by rfl, ?_⟩) ?_ ?_
                                                                        rotate_left
                                                                        · intro w'
                                                                          go_simp
                                                                          with_reducible rfl
                                                                        rotate_left
                                                                        · simp only [Act.put, List.setIfInBounds_toArray, List.set_cons_zero, List.set_cons_succ, i64_w, i32_w]
                                                                          rfl
                                                                        refine take_ (i := 11) (N := some 107) (v := ?_) (a' := ?_) #[true, true, true, true, true, true, true, true, true, true, true, true, false, true, true, true, true, false, false, true, true, true, true, false, false, true, false, false, false, false, false] rfl rfl (take_ofW HT_.out HW_.out (by kernel_rfl)) (fun _ _ _ h => h) (Or.inl ⟨by rfl, ?_⟩) hHeld ?_ ?_
                                                                        rotate_left
                                                                        · rintro w' ⟨s0, s1, s2, s3, s4, s5⟩
                                                                          go_simp
                                                                          with_reducible rfl
                                                                        rotate_left
                                                                        · simp only [Act.put, List.setIfInBounds_toArray, List.set_cons_zero, List.set_cons_succ, i64_w, i32_w]
                                                                          rfl
                                                                        refine pure_ (i := 12) (N := some 108) (v := ?_) (a' := ?_) #[true, true, true, true, true, true, true, true, true, true, true, true, true, true, true, true, true, false, false, true, true, true, true, false, false, true, false, false, false, false, false] rfl rfl (any_of HT_.out (by kernel_rfl)) (fun _ _ _ h => h) (Or.inl ⟨by rfl, ?_⟩) ?_ ?_
                                                                        rotate_left
                                                                        · intro w'
                                                                          go_simp
                                                                          with_reducible rfl
                                                                        rotate_left
                                                                        · simp only [Act.put, List.setIfInBounds_toArray, List.set_cons_zero, List.set_cons_succ, i64_w, i32_w]
                                                                          rfl
                                                                        refine take_ (i := 17) (N := some 113) (v := ?_) (a' := ?_) #[true, true, true, true, true, true, true, true, true, true, true, true, true, true, true, true, true, true, false, true, true, true, true, false, false, true, false, false, false, false, false] rfl rfl (take_ofW HT_.out HW_.out (by kernel_rfl)) (fun _ _ _ h => h) (Or.inl ⟨by rfl, ?_⟩) hHeld ?_ ?_
                                                                        rotate_left
                                                                        · rintro w' ⟨s0, s1, s2, s3, s4, s5⟩
                                                                          go_simp
                                                                          with_reducible rfl
                                                                        rotate_left
                                                                        · simp only [Act.put, List.setIfInBounds_toArray, List.set_cons_zero, List.set_cons_succ, i64_w, i32_w]
                                                                          rfl
                                                                        refine pure_ (i := 18) (N := some 114) (v := ?_) (a' := ?_) #[true, true, true, true, true, true, true, true, true, true, true, true, true, true, true, true, true, true, true, true, true, true, true, false, false, true, false, false, false, false, false] rfl rfl (any_of HT_.out (by kernel_rfl)) (fun _ _ _ h => h) (Or.inl ⟨by rfl, ?_⟩) ?_ ?_
                                                                        rotate_left
                                                                        · intro w'
                                                                          go_simp
                                                                          with_reducible rfl
                                                                        rotate_left
                                                                        · simp only [Act.put, List.setIfInBounds_toArray, List.set_cons_zero, List.set_cons_succ, i64_w, i32_w]
                                                                          rfl
                                                                        refine take_ (i := 23) (N := some 119) (v := ?_) (a' := ?_) #[true, true, true, true, true, true, true, true, true, true, true, true, true, true, true, true, true, true, true, true, true, true, true, true, false, true, false, false, false, false, false] rfl rfl (take_ofW HT_.out HW_.out (by kernel_rfl)) (fun _ _ _ h => h) (Or.inl ⟨by rfl, ?_⟩) hHeld ?_ ?_
                                                                        rotate_left
                                                                        · rintro w' ⟨s0, s1, s2, s3, s4, s5⟩
                                                                          go_simp
                                                                          with_reducible rfl
                                                                        rotate_left
                                                                        · simp only [Act.put, List.setIfInBounds_toArray, List.set_cons_zero, List.set_cons_succ, i64_w, i32_w]
                                                                          rfl
                                                                        refine pure_ (i := 24) (N := some 120) (v := ?_) (a' := ?_) #[true, true, true, true, true, true, true, true, true, true, true, true, true, true, true, true, true, true, true, true, true, true, true, true, true, true, false, false, false, false, false] rfl rfl (any_of HT_.out (by kernel_rfl)) (fun _ _ _ h => h) (Or.inl ⟨by rfl, ?_⟩) ?_ ?_
                                                                        rotate_left
                                                                        · intro w'
                                                                          go_simp
                                                                          with_reducible rfl
                                                                        rotate_left
                                                                        · simp only [Act.put, List.setIfInBounds_toArray, List.set_cons_zero, List.set_cons_succ, i64_w, i32_w]
                                                                          rfl
                                                                        refine pure_ (i := 26) (N := some 122) (v := ?_) (a' := ?_) #[true, true, true, true, true, true, true, true, true, true, true, true, true, true, true, true, true, true, true, true, true, true, true, true, true, true, true, false, false, false, false] rfl rfl (any_of HT_.out (by kernel_rfl)) (fun _ _ _ h => h) (Or.inl ⟨by rfl, ?_⟩) ?_ ?_
                                                                        rotate_left
                                                                        · intro w'
                                                                          go_simp
                                                                          with_reducible rfl
                                                                        rotate_left
                                                                        · simp only [Act.put, List.setIfInBounds_toArray, List.set_cons_zero, List.set_cons_succ, i64_w, i32_w]
                                                                          rfl
                                                                        refine one_ (i := 27) (N := some 123) #[true, true, true, true, true, true, true, true, true, true, true, true, true, true, true, true, true, true, true, true, true, true, true, true, true, true, true, true, false, false, false] rfl rfl (one_of HT_.out (by kernel_rfl)) (by decide) (fun K hK => ?_)
                                                                        refine value_ (w1 := ?_) (v := ?_) (by rfl) rfl ?_ ?_
                                                                        rotate_left 2
                                                                        · go_simp
                                                                          constructor
                                                                          · rfl
                                                                          · rfl
                                                                        refine hK.out _ _ ⟨(blk_cell (blk_alloc BK172.out _) 0).trans rfl, (blk_cell (blk_alloc BK172.out _) 1).trans rfl, (World.cell?_alloc_lt _ _ _ (World.block_lt_of_cell? _ _ (((HB.out.cell (World.block_lt_of_cell? w _ hw178_0)).trans hw178_0)))).trans (((HB.out.cell (World.block_lt_of_cell? w _ hw178_0)).trans hw178_0)), (World.cell?_alloc_lt _ _ _ (World.block_lt_of_cell? _ _ (((HB.out.cell (World.block_lt_of_cell? w _ hw179_0)).trans hw179_0)))).trans (((HB.out.cell (World.block_lt_of_cell? w _ hw179_0)).trans hw179_0)), (World.cell?_alloc_lt _ _ _ (World.block_lt_of_cell? _ _ (((HB.out.cell (World.block_lt_of_cell? w _ hw180_0)).trans hw180_0)))).trans (((HB.out.cell (World.block_lt_of_cell? w _ hw180_0)).trans hw180_0)), (World.cell?_alloc_lt _ _ _ (World.block_lt_of_cell? _ _ (((HB.out.cell (World.block_lt_of_cell? w _ hw181_0)).trans hw181_0)))).trans (((HB.out.cell (World.block_lt_of_cell? w _ hw181_0)).trans hw181_0))⟩ (fun hHeld => ?_)
                                                                        clear hK K
                                                                        refine norm_ (a' := ?_) ?_ ?_
                                                                        rotate_left
                                                                        · show Act.put _ (some 123) _ = _
                                                                          simp only [Act.put, List.setIfInBounds_toArray, List.set_cons_zero, List.set_cons_succ, i64_w, i32_w]
                                                                          rfl
                                                                        refine one_ (i := 28) (N := some 124) #[true, true, true, true, true, true, true, true, true, true, true, true, true, true, true, true, true, true, true, true, true, true, true, true, true, true, true, true, true, false, false] rfl rfl (one_of HT_.out (by kernel_rfl)) (by decide) (fun K hK => ?_)
                                                                        refine Kd.R_append_step k56 (w0 := w) w.heap.size (by rfl) (.tmp 97) (.tmp 123) 49 56 (.agg #[(.int .i64 0), (.int .i64 0), (.int .i64 0), (.int .i64 0), (.int .i64 0)]) 40 rfl Try.underlying49 info56 rfl (by decide) (by omega) u173001 x173001_3 (⟨wrap64 (rd l0 x5_3), wrap64 (rd l0 (ji36)), wrap64 (rd l0 (ji39)), wrap64 (rd l0 (ji42)), wrap64 ((wrap64 ((wrap64 (rd l0 (ji21))) + (wrap64 (256 * (wrap64 ((wrap64 (rd l0 (ji24))) + (wrap64 (256 * (wrap64 ((wrap64 (rd l0 (ji27))) + (wrap64 (256 * (wrap64 (rd l0 (ji30))))))))))))))) - 4294967296)⟩ : S56) [.int .i64 (wrap64 (rd l0 x5_3)), .int .i64 (wrap64 (rd l0 (ji36))), .int .i64 (wrap64 (rd l0 (ji39))), .int .i64 (wrap64 (rd l0 (ji42))), .int .i64 (wrap64 ((wrap64 ((wrap64 (rd l0 (ji21))) + (wrap64 (256 * (wrap64 ((wrap64 (rd l0 (ji24))) + (wrap64 (256 * (wrap64 ((wrap64 (rd l0 (ji27))) + (wrap64 (256 * (wrap64 (rd l0 (ji30))))))))))))))) - 4294967296))] (fun _ => True) (fun _ => False) rfl rfl ?aP (fun _ hk => hk.elim) ?aF ?aO ?aB ?aS ?aL ?_
                                                                        (case aP => exact k56_mkM _ _ _ (⟨wrap64 (rd l0 x5_3), wrap64 (rd l0 (ji36)), wrap64 (rd l0 (ji39)), wrap64 (rd l0 (ji42)), wrap64 ((wrap64 ((wrap64 (rd l0 (ji21))) + (wrap64 (256 * (wrap64 ((wrap64 (rd l0 (ji24))) + (wrap64 (256 * (wrap64 ((wrap64 (rd l0 (ji27))) + (wrap64 (256 * (wrap64 (rd l0 (ji30))))))))))))))) - 4294967296)⟩ : S56))
                                                                        (case aB => exact (by repeat (first | (with_reducible first | exact HB.out | apply below_alloc | apply pw_below_drewN | apply below_drew1 | refine below_set ?_ GE172.out) | exact HB.out)))
                                                                        (case aF => exact (fun _ _ => trivial))
                                                                        (case aO => exact (by (with_reducible repeat (first | apply Kd.R_alloc | apply Kd.R_drewN | apply Kd.R_drew)); exact HO_173001.out))
                                                                        (case aS => exact (below_size (by repeat (first | (with_reducible first | exact HB.out | apply below_alloc | apply pw_below_drewN | apply below_drew1 | refine below_set ?_ GE172.out) | exact HB.out))))
                                                                        (case aL => have := LMc45.out; omega)
                                                                        intro v183 w48 ho hb hg hat
                                                                        rw [← Ny182.out] at ho
                                                                        have n0_ := Aside0.mk (Kd.S_after (ok := (fun k_ => k_ ≠ gb172)) (by (with_reducible repeat (first | apply Kd.S_alloc | apply Kd.S_drewN | apply Kd.S_drew)); exact Kd.S_mono HO_4.out (fun _ hk => ⟨hk.2, hk.1⟩)) hg hat)
                                                                        have n1_ := Aside0.mk (blk_grown (g := gb172) (o := .cells #[.int .i64 (wrap64 (rd l0 x5_2)), u173001] 51 (0, 0)) (by (with_reducible repeat (first | refine blk_drewN ?_ _ | refine blk_drew ?_ | refine blk_alloc ?_ _)); exact BK172.out) hg (Kd.R_ne HO_173001.out BK172.out (by decide)))
                                                                        have n2_ := Aside0.mk (hb)
                                                                        have n3_ := Aside0.mk (ho)
                                                                        clear HO_4
                                                                        clear BK172
                                                                        clear HB
                                                                        clear HO_173001
                                                                        have HO_4 := n0_
                                                                        have BK172 := n1_
                                                                        have HB := n2_
                                                                        have HO184 := n3_
                                                                        clear n0_ n1_ n2_ n3_
                                                                        clear ho hb hg hat
                                                                        obtain ⟨Ao49, co49, eo49⟩ := Kd.R_slice HO184.out
                                                                        (first | subst eo49 | (injection eo49 with f1_ f2_ f3_; have f4_ := f1_.symm; have f5_ := f3_.symm; clear f1_ f2_ f3_; subst f4_; subst f5_))
                                                                        refine hK.out _ _ ⟨(blk_cell BK172.out 0).trans rfl, (blk_cell BK172.out 1).trans rfl, ((HB.out.cell (World.block_lt_of_cell? w _ hw178_0)).trans hw178_0), ((HB.out.cell (World.block_lt_of_cell? w _ hw179_0)).trans hw179_0), ((HB.out.cell (World.block_lt_of_cell? w _ hw180_0)).trans hw180_0), ((HB.out.cell (World.block_lt_of_cell? w _ hw181_0)).trans hw181_0)⟩ (fun hHeld => ?_)
                                                                        clear hK K
                                                                        refine norm_ (a' := ?_) ?_ ?_
                                                                        rotate_left
                                                                        · show Act.put _ (some 124) _ = _
                                                                          simp only [Act.put, List.setIfInBounds_toArray, List.set_cons_zero, List.set_cons_succ, i64_w, i32_w]
                                                                          rfl
                                                                        refine pure_ (i := 29) (N := some 125) (v := ?_) (a' := ?_) #[true, true, true, true, true, true, true, true, true, true, true, true, true, true, true, true, true, true, true, true, true, true, true, true, true, true, true, true, true, true, false] rfl rfl (any_of HT_.out (by kernel_rfl)) (fun _ _ _ h => h) (Or.inl ⟨by rfl, ?_⟩) ?_ ?_
                                                                        rotate_left
                                                                        · intro w'
                                                                          go_simp
                                                                          with_reducible rfl
                                                                        rotate_left
                                                                        · simp only [Act.put, List.setIfInBounds_toArray, List.set_cons_zero, List.set_cons_succ, i64_w, i32_w]
                                                                          rfl
                                                                        refine last_ (i := 30) (N := none) #[true, true, true, true, true, true, true, true, true, true, true, true, true, true, true, true, true, true, true, true, true, true, true, true, true, true, true, true, true, true, true] rfl rfl (one_of HT_.out (by kernel_rfl)) (by decide) (fun K hK => ?_)
                                                                        have hs50 : w48.cell? ⟨gb172, 1, none⟩ = some (u173001) := (blk_cell BK172.out 1).trans rfl
                                                                        have hfs50 := blk_frozen BK172.out 1
                                                                        refine skip_ (w1 := ?_) (by rfl) rfl ?_ ?_
                                                                        rotate_left
                                                                        · go_simp
                                                                          rfl
                                                                        refine hK.out _ _ ?_
                                                                        clear hK K
                                                                        refine done_ (done_of HT_.out (by kernel_rfl)) ?_
                                                                        try go_wp2
                                                                        go_roundg k3
                                                                        case measure => have := HJ1.out; have := HK2.out; have := HK3.out; omega
                                                                        case rel => exact ⟨(wrap64 (x5_3 + 8)), (wrap64 (x9_3 + 1)), (y182), (.slice Ao49 y182.length co49), (by first | rfl | (simp; done) | (simp [*]; done)), (by first | rfl | (simp; done) | (simp [*]; done)), H', ⟨by have := HJ1.out; have := HK2.out; have := HK3.out; omega⟩, ⟨by (with_reducible repeat (first | apply Kd.S_alloc | apply Kd.S_drewN | apply Kd.S_drew)); exact Kd.S_mono (Kd.S_far (p := ⟨gb172, 1, none⟩) (Kd.S_mono HO_4.out (fun k_ hk => (⟨hk, hk.1⟩ : _ ∧ k_ ≠ gb172))) (fun _ hk => hk.2) (.slice Ao49 y182.length co49)) (fun _ hk => ⟨hk.1.2, hk.1.1⟩)⟩, ⟨by (with_reducible repeat (first | apply Kd.R_alloc | apply Kd.R_drewN | apply Kd.R_drew)); exact Kd.R_mono (Kd.R_far (p := ⟨gb172, 1, none⟩) (Kd.R_types HO184.out BK172.out (by decide)) (fun _ hk => hk.2) (.slice Ao49 y182.length co49)) (fun _ hk => trivial)⟩, ⟨by (with_reducible repeat (first | refine blk_drewN ?_ _ | refine blk_drew ?_ | refine blk_alloc ?_ _)); refine blk_put (cs := #[.int .i64 (wrap64 (rd l0 x5_2)), u173001]) ?_ 1 _ rfl; (with_reducible repeat (first | refine blk_drewN ?_ _ | refine blk_drew ?_ | refine blk_alloc ?_ _)); exact BK172.out⟩, ⟨by repeat (first | (with_reducible first | exact HB.out | apply below_alloc | apply pw_below_drewN | apply below_drew1 | refine below_set ?_ GE172.out) | exact HB.out)⟩⟩
                                                                      · rw [if_neg c45] at H
                                                                        exact absurd H (by simp)
                                                                    · rw [if_neg c44] at H
                                                                      exact absurd H (by simp)
                                                                  · rw [if_neg c43] at H
                                                                    exact absurd H (by simp)
                                                                · rw [if_neg c41] at H
                                                                  exact absurd H (by simp)
                                                              · rw [if_neg c40] at H
                                                                exact absurd H (by simp)
                                                            · rw [if_neg c38] at H
                                                              exact absurd H (by simp)
                                                          · rw [if_neg c37] at H
                                                            exact absurd H (by simp)
                                                        · rw [if_neg c35] at H
                                                          exact absurd H (by simp)
                                                      · rw [if_neg c34] at H
                                                        exact absurd H (by simp)
                                                    · rw [if_neg c33] at H
                                                      have c33b0 : decide (2147483648 ≤ (wrap64 ((wrap64 (rd l0 (ji21))) + (wrap64 (256 * (wrap64 ((wrap64 (rd l0 (ji24))) + (wrap64 (256 * (wrap64 ((wrap64 (rd l0 (ji27))) + (wrap64 (256 * (wrap64 (rd l0 (ji30)))))))))))))))) = false := decide_eq_false c33
                                                      clear c33
                                                      by_cases c51 : 0 ≤ x5_3
                                                      · rw [if_pos c51] at H
                                                        have c51b0 : decide (0 ≤ x5_3) = true := decide_eq_true c51
                                                        clear c51
                                                        by_cases c52 : x5_3 < (l0.length : Int)
                                                        · rw [if_pos c52] at H
                                                          have c52b0 : decide (x5_3 < (l0.length : Int)) = true := decide_eq_true c52
                                                          clear c52
                                                          obtain ⟨ji53, hji53⟩ : ∃ j_ : Int, (wrap64 (x5_3 + 1)) = j_ := ⟨_, rfl⟩
                                                          replace H : (if 0 ≤ (ji53) then (if (ji53) < (l0.length : Int) then (if 0 ≤ (wrap64 (x5_3 + 2)) then (if (wrap64 (x5_3 + 2)) < (l0.length : Int) then (if 0 ≤ (wrap64 (x5_3 + 3)) then (if (wrap64 (x5_3 + 3)) < (l0.length : Int) then (if x173001_3.length < 3518437208883 then (haymowref02_Read.l1 k3 l0 x4_2 (wrap64 (x5_3 + 8)) x6_2 (wrap64 (rd l0 (ji12))) (wrap64 (x9_3 + 1)) (wrap64 (rd l0 x5_2)) (x173001_3 ++ [(⟨wrap64 (rd l0 x5_3), wrap64 (rd l0 (ji53)), wrap64 (rd l0 (wrap64 (x5_3 + 2))), wrap64 (rd l0 (wrap64 (x5_3 + 3))), wrap64 ((wrap64 (rd l0 (ji21))) + (wrap64 (256 * (wrap64 ((wrap64 (rd l0 (ji24))) + (wrap64 (256 * (wrap64 ((wrap64 (rd l0 (ji27))) + (wrap64 (256 * (wrap64 (rd l0 (ji30))))))))))))))⟩ : S56)])) else (none)) else (none)) else (none)) else (none)) else (none)) else (none)) else (none)) = some (r1, r2) := by first | (rw [hji53] at H; exact H) | (simp only [hji53] at H ⊢; exact H)
                                                          have hji53w : (IntKind.i64.wrap (x5_3 + 1)) = ji53 := (i64_w _).trans hji53
                                                          by_cases c54 : 0 ≤ (ji53)
                                                          · rw [if_pos c54] at H
                                                            have c54b0 : decide (0 ≤ (ji53)) = true := decide_eq_true c54
                                                            clear c54
                                                            by_cases c55 : (ji53) < (l0.length : Int)
                                                            · rw [if_pos c55] at H
                                                              have c55b0 : decide ((ji53) < (l0.length : Int)) = true := decide_eq_true c55
                                                              clear c55
                                                              obtain ⟨ji56, hji56⟩ : ∃ j_ : Int, (wrap64 (x5_3 + 2)) = j_ := ⟨_, rfl⟩
                                                              replace H : (if 0 ≤ (ji56) then (if (ji56) < (l0.length : Int) then (if 0 ≤ (wrap64 (x5_3 + 3)) then (if (wrap64 (x5_3 + 3)) < (l0.length : Int) then (if x173001_3.length < 3518437208883 then (haymowref02_Read.l1 k3 l0 x4_2 (wrap64 (x5_3 + 8)) x6_2 (wrap64 (rd l0 (ji12))) (wrap64 (x9_3 + 1)) (wrap64 (rd l0 x5_2)) (x173001_3 ++ [(⟨wrap64 (rd l0 x5_3), wrap64 (rd l0 (ji53)), wrap64 (rd l0 (ji56)), wrap64 (rd l0 (wrap64 (x5_3 + 3))), wrap64 ((wrap64 (rd l0 (ji21))) + (wrap64 (256 * (wrap64 ((wrap64 (rd l0 (ji24))) + (wrap64 (256 * (wrap64 ((wrap64 (rd l0 (ji27))) + (wrap64 (256 * (wrap64 (rd l0 (ji30))))))))))))))⟩ : S56)])) else (none)) else (none)) else (none)) else (none)) else (none)) = some (r1, r2) := by first | (rw [hji56] at H; exact H) | (simp only [hji56] at H ⊢; exact H)
                                                              have hji56w : (IntKind.i64.wrap (x5_3 + 2)) = ji56 := (i64_w _).trans hji56
                                                              by_cases c57 : 0 ≤ (ji56)
                                                              · rw [if_pos c57] at H
                                                                have c57b0 : decide (0 ≤ (ji56)) = true := decide_eq_true c57
                                                                clear c57
                                                                by_cases c58 : (ji56) < (l0.length : Int)
                                                                · rw [if_pos c58] at H
                                                                  have c58b0 : decide ((ji56) < (l0.length : Int)) = true := decide_eq_true c58
                                                                  clear c58
                                                                  obtain ⟨ji59, hji59⟩ : ∃ j_ : Int, (wrap64 (x5_3 + 3)) = j_ := ⟨_, rfl⟩
                                                                  replace H : (if 0 ≤ (ji59) then (if (ji59) < (l0.length : Int) then (if x173001_3.length < 3518437208883 then (haymowref02_Read.l1 k3 l0 x4_2 (wrap64 (x5_3 + 8)) x6_2 (wrap64 (rd l0 (ji12))) (wrap64 (x9_3 + 1)) (wrap64 (rd l0 x5_2)) (x173001_3 ++ [(⟨wrap64 (rd l0 x5_3), wrap64 (rd l0 (ji53)), wrap64 (rd l0 (ji56)), wrap64 (rd l0 (ji59)), wrap64 ((wrap64 (rd l0 (ji21))) + (wrap64 (256 * (wrap64 ((wrap64 (rd l0 (ji24))) + (wrap64 (256 * (wrap64 ((wrap64 (rd l0 (ji27))) + (wrap64 (256 * (wrap64 (rd l0 (ji30))))))))))))))⟩ : S56)])) else (none)) else (none)) else (none)) = some (r1, r2) := by first | (rw [hji59] at H; exact H) | (simp only [hji59] at H ⊢; exact H)
                                                                  have hji59w : (IntKind.i64.wrap (x5_3 + 3)) = ji59 := (i64_w _).trans hji59
                                                                  by_cases c60 : 0 ≤ (ji59)
                                                                  · rw [if_pos c60] at H
                                                                    have c60b0 : decide (0 ≤ (ji59)) = true := decide_eq_true c60
                                                                    clear c60
                                                                    by_cases c61 : (ji59) < (l0.length : Int)
                                                                    · rw [if_pos c61] at H
                                                                      have c61b0 : decide ((ji59) < (l0.length : Int)) = true := decide_eq_true c61
                                                                      clear c61
                                                                      by_cases c62 : x173001_3.length < 3518437208883
                                                                      · rw [if_pos c62] at H
                                                                        have LMc62 := Aside0.mk c62
                                                                        clear c62
                                                                        obtain ⟨y189, hy189⟩ : ∃ y_ : List (S56), y_ = (x173001_3 ++ [(⟨wrap64 (rd l0 x5_3), wrap64 (rd l0 (ji53)), wrap64 (rd l0 (ji56)), wrap64 (rd l0 (ji59)), wrap64 ((wrap64 (rd l0 (ji21))) + (wrap64 (256 * (wrap64 ((wrap64 (rd l0 (ji24))) + (wrap64 (256 * (wrap64 ((wrap64 (rd l0 (ji27))) + (wrap64 (256 * (wrap64 (rd l0 (ji30))))))))))))))⟩ : S56)]) := ⟨_, rfl⟩
                                                                        replace H : (haymowref02_Read.l1 k3 l0 x4_2 (wrap64 (x5_3 + 8)) x6_2 (wrap64 (rd l0 (ji12))) (wrap64 (x9_3 + 1)) (wrap64 (rd l0 x5_2)) y189) = some (r1, r2) := by first | (rw [hy189]; with_reducible exact H) | (have H2_ := (Option.bind_some _ _).symm.trans H; rw [hy189]; with_reducible exact H2_) | (have H2_ := (Option.bind_some _ _).symm.trans H; with_reducible exact H2_) | with_reducible exact H | (rw [hy189]; exact H) | exact H
                                                                        have Ny189 := Aside0.mk hy189
                                                                        clear hy189
                                                                        have H' := Aside0.mk H
                                                                        clear H
                                                                        try go_wp2
                                                                        have n0_ := Aside0.mk (Kd.S_drew HO_4.out)
                                                                        have n1_ := Aside0.mk (Kd.R_drew HO_173001.out)
                                                                        have n2_ := Aside0.mk (blk_drew BK172.out)
                                                                        have n3_ := Aside0.mk (below_drew1 HB.out)
                                                                        clear HO_4
                                                                        clear HO_173001
                                                                        clear BK172
                                                                        clear HB
                                                                        have HO_4 := n0_
                                                                        have HO_173001 := n1_
                                                                        have BK172 := n2_
                                                                        have HB := n3_
                                                                        clear n0_ n1_ n2_ n3_
                                                                        have p174 : 0 ≤ ((ji21) : Int) := of_decide_eq_true (by first | (with_reducible assumption) | assumption)
                                                                        have q174 : (ji21) < (l0.length : Int) := of_decide_eq_true (by first | (with_reducible assumption) | assumption)
                                                                        obtain ⟨ad174, e174, hx174_0⟩ := Kd.at_int HR0.out (ji21) p174 q174
                                                                        have hw174_0 := hx174_0
                                                                        obtain rfl : ad170 = ad174 := (by injection e174)
                                                                        replace hx174_0 := (HB.out.cell (World.block_lt_of_cell? w _ hx174_0)).trans hx174_0
                                                                        replace p174 := eq_true p174
                                                                        replace q174 := eq_true q174
                                                                        have p175 : 0 ≤ ((ji24) : Int) := of_decide_eq_true (by first | (with_reducible assumption) | assumption)
                                                                        have q175 : (ji24) < (l0.length : Int) := of_decide_eq_true (by first | (with_reducible assumption) | assumption)
                                                                        obtain ⟨ad175, e175, hx175_0⟩ := Kd.at_int HR0.out (ji24) p175 q175
                                                                        have hw175_0 := hx175_0
                                                                        obtain rfl : ad170 = ad175 := (by injection e175)
                                                                        replace hx175_0 := (HB.out.cell (World.block_lt_of_cell? w _ hx175_0)).trans hx175_0
                                                                        replace p175 := eq_true p175
                                                                        replace q175 := eq_true q175
                                                                        have p176 : 0 ≤ ((ji27) : Int) := of_decide_eq_true (by first | (with_reducible assumption) | assumption)
                                                                        have q176 : (ji27) < (l0.length : Int) := of_decide_eq_true (by first | (with_reducible assumption) | assumption)
                                                                        obtain ⟨ad176, e176, hx176_0⟩ := Kd.at_int HR0.out (ji27) p176 q176
                                                                        have hw176_0 := hx176_0
                                                                        obtain rfl : ad170 = ad176 := (by injection e176)
                                                                        replace hx176_0 := (HB.out.cell (World.block_lt_of_cell? w _ hx176_0)).trans hx176_0
                                                                        replace p176 := eq_true p176
                                                                        replace q176 := eq_true q176
                                                                        have p177 : 0 ≤ ((ji30) : Int) := of_decide_eq_true (by first | (with_reducible assumption) | assumption)
                                                                        have q177 : (ji30) < (l0.length : Int) := of_decide_eq_true (by first | (with_reducible assumption) | assumption)
                                                                        obtain ⟨ad177, e177, hx177_0⟩ := Kd.at_int HR0.out (ji30) p177 q177
                                                                        have hw177_0 := hx177_0
                                                                        obtain rfl : ad170 = ad177 := (by injection e177)
                                                                        replace hx177_0 := (HB.out.cell (World.block_lt_of_cell? w _ hx177_0)).trans hx177_0
                                                                        replace p177 := eq_true p177
                                                                        replace q177 := eq_true q177
                                                                        refine start_ (n := 31) (S := fun w' => w'.cell? (ad170.add ((ji21)).toNat) = some (.int .u8 (rd l0 (ji21))) ∧ w'.cell? (ad170.add ((ji24)).toNat) = some (.int .u8 (rd l0 (ji24))) ∧ w'.cell? (ad170.add ((ji27)).toNat) = some (.int .u8 (rd l0 (ji27))) ∧ w'.cell? (ad170.add ((ji30)).toNat) = some (.int .u8 (rd l0 (ji30)))) (ds := []) #[false, false, false, false, false, false, false, false, false, false, false, false, false, false, false, false, false, false, false, false, false, false, false, false, false, false, false, false, false, false, false] (by kernel_rfl) rfl rfl ⟨((HB.out.cell (World.block_lt_of_cell? w _ hw174_0)).trans hw174_0), ((HB.out.cell (World.block_lt_of_cell? w _ hw175_0)).trans hw175_0), ((HB.out.cell (World.block_lt_of_cell? w _ hw176_0)).trans hw176_0), ((HB.out.cell (World.block_lt_of_cell? w _ hw177_0)).trans hw177_0)⟩ (fun hHeld => ?_); refine with_tabW haymowref02_Read.tab20 haymowref02_Read.bits20 (fun HT_ HW_ => ?_)
                                                                        generalize wr.drew = w63 at HO_4 HO_173001 BK172 HB hx174_0 hx175_0 hx176_0 hx177_0 hHeld ⊢
                                                                        refine pure_ (i := 0) (N := some 62) (v := ?_) (a' := ?_) #[true, false, false, false, false, false, false, false, false, false, false, false, false, false, false, false, false, false, false, false, false, false, false, false, false, false, false, false, false, false, false] rfl rfl (any_of HT_.out (by kernel_rfl)) (fun _ _ _ h => h) (Or.inl ⟨by rfl, ?_⟩) ?_ ?_
                                                                        rotate_left
                                                                        · intro w'
                                                                          go_simp
                                                                          with_reducible rfl
                                                                        rotate_left
                                                                        · simp only [Act.put, List.setIfInBounds_toArray, List.set_cons_zero, List.set_cons_succ, i64_w, i32_w]
                                                                          rfl
                                                                        refine pure_ (i := 1) (N := some 63) (v := ?_) (a' := ?_) #[true, true, false, false, false, false, false, false, false, false, false, false, false, false, false, false, false, false, false, false, false, false, false, false, false, false, false, false, false, false, false] rfl rfl (any_of HT_.out (by kernel_rfl)) (fun _ _ _ h => h) (Or.inl ⟨by rfl, ?_⟩) ?_ ?_
                                                                        rotate_left
                                                                        · intro w'
                                                                          go_simp
                                                                          with_reducible rfl
                                                                        rotate_left
                                                                        · simp only [Act.put, List.setIfInBounds_toArray, List.set_cons_zero, List.set_cons_succ, i64_w, i32_w]
                                                                          rfl
                                                                        refine pure_ (i := 2) (N := some 64) (v := ?_) (a' := ?_) #[true, true, true, false, false, false, false, false, false, false, false, false, false, false, false, false, false, false, false, false, false, false, false, false, false, false, false, false, false, false, false] rfl rfl (any_of HT_.out (by kernel_rfl)) (fun _ _ _ h => h) (Or.inl ⟨by rfl, ?_⟩) ?_ ?_
                                                                        rotate_left
                                                                        · intro w'
                                                                          go_simp
                                                                          with_reducible rfl
                                                                        rotate_left
                                                                        · simp only [Act.put, List.setIfInBounds_toArray, List.set_cons_zero, List.set_cons_succ, i64_w, i32_w]
                                                                          rfl
                                                                        refine pure_ (i := 3) (N := some 65) (v := ?_) (a' := ?_) #[true, true, true, true, false, false, false, false, false, false, false, false, false, false, false, false, false, false, false, false, false, false, false, false, false, false, false, false, false, false, false] rfl rfl (any_of HT_.out (by kernel_rfl)) (fun _ _ _ h => h) (Or.inl ⟨by rfl, ?_⟩) ?_ ?_
                                                                        rotate_left
                                                                        · intro w'
                                                                          go_simp
                                                                          with_reducible rfl
                                                                        rotate_left
                                                                        · simp only [Act.put, List.setIfInBounds_toArray, List.set_cons_zero, List.set_cons_succ, i64_w, i32_w]
                                                                          rfl
                                                                        refine pure_ (i := 6) (N := some 68) (v := ?_) (a' := ?_) #[true, true, true, true, false, false, true, false, false, false, false, false, false, false, false, false, false, false, false, false, false, false, false, false, false, false, false, false, false, false, false] rfl rfl (any_of HT_.out (by kernel_rfl)) (fun _ _ _ h => h) (Or.inl ⟨by rfl, ?_⟩) ?_ ?_
                                                                        rotate_left
                                                                        · intro w'
                                                                          go_simp
                                                                          with_reducible rfl
                                                                        rotate_left
                                                                        · simp only [Act.put, List.setIfInBounds_toArray, List.set_cons_zero, List.set_cons_succ, i64_w, i32_w]
                                                                          rfl
                                                                        refine pure_ (i := 7) (N := some 69) (v := ?_) (a' := ?_) #[true, true, true, true, false, false, true, true, false, false, false, false, false, false, false, false, false, false, false, false, false, false, false, false, false, false, false, false, false, false, false] rfl rfl (any_of HT_.out (by kernel_rfl)) (fun _ _ _ h => h) (Or.inl ⟨by rfl, ?_⟩) ?_ ?_
                                                                        rotate_left
                                                                        · intro w'
                                                                          go_simp
                                                                          with_reducible rfl
                                                                        rotate_left
                                                                        · simp only [Act.put, List.setIfInBounds_toArray, List.set_cons_zero, List.set_cons_succ, i64_w, i32_w]
                                                                          rfl
                                                                        refine pure_ (i := 8) (N := some 70) (v := ?_) (a' := ?_) #[true, true, true, true, false, false, true, true, true, false, false, false, false, false, false, false, false, false, false, false, false, false, false, false, false, false, false, false, false, false, false] rfl rfl (any_of HT_.out (by kernel_rfl)) (fun _ _ _ h => h) (Or.inl ⟨by rfl, ?_⟩) ?_ ?_
                                                                        rotate_left
                                                                        · intro w'
                                                                          go_simp
                                                                          with_reducible rfl
                                                                        rotate_left
                                                                        · simp only [Act.put, List.setIfInBounds_toArray, List.set_cons_zero, List.set_cons_succ, i64_w, i32_w]
                                                                          rfl
                                                                        refine pure_ (i := 9) (N := some 71) (v := ?_) (a' := ?_) #[true, true, true, true, false, false, true, true, true, true, false, false, false, false, false, false, false, false, false, false, false, false, false, false, false, false, false, false, false, false, false] rfl rfl (any_of HT_.out (by kernel_rfl)) (fun _ _ _ h => h) (Or.inl ⟨by rfl, ?_⟩) ?_ ?_
                                                                        rotate_left
                                                                        · intro w'
                                                                          go_simp
                                                                          with_reducible rfl
                                                                        rotate_left
                                                                        · simp only [Act.put, List.setIfInBounds_toArray, List.set_cons_zero, List.set_cons_succ, i64_w, i32_w]
                                                                          rfl
                                                                        refine pure_ (i := 12) (N := some 74) (v := ?_) (a' := ?_) #[true, true, true, true, false, false, true, true, true, true, false, false, true, false, false, false, false, false, false, false, false, false, false, false, false, false, false, false, false, false, false] rfl rfl (any_of HT_.out (by kernel_rfl)) (fun _ _ _ h => h) (Or.inl ⟨by rfl, ?_⟩) ?_ ?_
                                                                        rotate_left
                                                                        · intro w'
                                                                          go_simp
                                                                          with_reducible rfl
                                                                        rotate_left
                                                                        · simp only [Act.put, List.setIfInBounds_toArray, List.set_cons_zero, List.set_cons_succ, i64_w, i32_w]
                                                                          rfl
                                                                        refine pure_ (i := 13) (N := some 75) (v := ?_) (a' := ?_) #[true, true, true, true, false, false, true, true, true, true, false, false, true, true, false, false, false, false, false, false, false, false, false, false, false, false, false, false, false, false, false] rfl rfl (any_of HT_.out (by kernel_rfl)) (fun _ _ _ h => h) (Or.inl ⟨by rfl, ?_⟩) ?_ ?_
                                                                        rotate_left
                                                                        · intro w'
                                                                          go_simp
                                                                          with_reducible rfl
                                                                        rotate_left
                                                                        · simp only [Act.put, List.setIfInBounds_toArray, List.set_cons_zero, List.set_cons_succ, i64_w, i32_w]
                                                                          rfl
                                                                        refine pure_ (i := 14) (N := some 76) (v := ?_) (a' := ?_) #[true, true, true, true, false, false, true, true, true, true, false, false, true, true, true, false, false, false, false, false, false, false, false, false, false, false, false, false, false, false, false] rfl rfl (any_of HT_.out (by kernel_rfl)) (fun _ _ _ h => h) (Or.inl ⟨by rfl, ?_⟩) ?_ ?_
                                                                        rotate_left
                                                                        · intro w'
                                                                          go_simp
                                                                          with_reducible rfl
                                                                        rotate_left
                                                                        · simp only [Act.put, List.setIfInBounds_toArray, List.set_cons_zero, List.set_cons_succ, i64_w, i32_w]
                                                                          rfl
                                                                        refine pure_ (i := 15) (N := some 77) (v := ?_) (a' := ?_) #[true, true, true, true, false, false, true, true, true, true, false, false, true, true, true, true, false, false, false, false, false, false, false, false, false, false, false, false, false, false, false] rfl rfl (any_of HT_.out (by kernel_rfl)) (fun _ _ _ h => h) (Or.inl ⟨by rfl, ?_⟩) ?_ ?_
                                                                        rotate_left
                                                                        · intro w'
                                                                          go_simp
                                                                          with_reducible rfl
                                                                        rotate_left
                                                                        · simp only [Act.put, List.setIfInBounds_toArray, List.set_cons_zero, List.set_cons_succ, i64_w, i32_w]
                                                                          rfl
                                                                        refine pure_ (i := 18) (N := some 80) (v := ?_) (a' := ?_) #[true, true, true, true, false, false, true, true, true, true, false, false, true, true, true, true, false, false, true, false, false, false, false, false, false, false, false, false, false, false, false] rfl rfl (any_of HT_.out (by kernel_rfl)) (fun _ _ _ h => h) (Or.inl ⟨by rfl, ?_⟩) ?_ ?_
                                                                        rotate_left
                                                                        · intro w'
                                                                          go_simp
                                                                          with_reducible rfl
                                                                        rotate_left
                                                                        · simp only [Act.put, List.setIfInBounds_toArray, List.set_cons_zero, List.set_cons_succ, i64_w, i32_w]
                                                                          rfl
                                                                        refine pure_ (i := 19) (N := some 81) (v := ?_) (a' := ?_) #[true, true, true, true, false, false, true, true, true, true, false, false, true, true, true, true, false, false, true, true, false, false, false, false, false, false, false, false, false, false, false] rfl rfl (any_of HT_.out (by kernel_rfl)) (fun _ _ _ h => h) (Or.inl ⟨by rfl, ?_⟩) ?_ ?_
                                                                        rotate_left
                                                                        · intro w'
                                                                          go_simp
                                                                          with_reducible rfl
                                                                        rotate_left
                                                                        · simp only [Act.put, List.setIfInBounds_toArray, List.set_cons_zero, List.set_cons_succ, i64_w, i32_w]
                                                                          rfl
                                                                        refine pure_ (i := 20) (N := some 82) (v := ?_) (a' := ?_) #[true, true, true, true, false, false, true, true, true, true, false, false, true, true, true, true, false, false, true, true, true, false, false, false, false, false, false, false, false, false, false] rfl rfl (any_of HT_.out (by kernel_rfl)) (fun _ _ _ h => h) (Or.inl ⟨by rfl, ?_⟩) ?_ ?_
                                                                        rotate_left
                                                                        · intro w'
                                                                          go_simp
                                                                          with_reducible rfl
                                                                        rotate_left
                                                                        · simp only [Act.put, List.setIfInBounds_toArray, List.set_cons_zero, List.set_cons_succ, i64_w, i32_w]
                                                                          rfl
                                                                        refine pure_ (i := 21) (N := some 83) (v := ?_) (a' := ?_) #[true, true, true, true, false, false, true, true, true, true, false, false, true, true, true, true, false, false, true, true, true, true, false, false, false, false, false, false, false, false, false] rfl rfl (any_of HT_.out (by kernel_rfl)) (fun _ _ _ h => h) (Or.inl ⟨by rfl, ?_⟩) ?_ ?_
                                                                        rotate_left
                                                                        · intro w'
                                                                          go_simp
                                                                          with_reducible rfl
                                                                        rotate_left
                                                                        · simp only [Act.put, List.setIfInBounds_toArray, List.set_cons_zero, List.set_cons_succ, i64_w, i32_w]
                                                                          rfl
                                                                        refine take_ (i := 4) (N := some 66) (v := ?_) (a' := ?_) #[true, true, true, true, true, false, true, true, true, true, false, false, true, true, true, true, false, false, true, true, true, true, false, false, false, false, false, false, false, false, false] rfl rfl (take_ofW HT_.out HW_.out (by kernel_rfl)) (fun _ _ _ h => h) (Or.inl ⟨by rfl, ?_⟩) hHeld ?_ ?_
                                                                        rotate_left
                                                                        · rintro w' ⟨s0, s1, s2, s3⟩
                                                                          go_simp
                                                                          with_reducible rfl
                                                                        rotate_left
                                                                        · simp only [Act.put, List.setIfInBounds_toArray, List.set_cons_zero, List.set_cons_succ, i64_w, i32_w]
                                                                          rfl
                                                                        refine pure_ (i := 5) (N := some 67) (v := ?_) (a' := ?_) #[true, true, true, true, true, true, true, true, true, true, false, false, true, true, true, true, false, false, true, true, true, true, false, false, false, false, false, false, false, false, false] rfl rfl (any_of HT_.out (by kernel_rfl)) (fun _ _ _ h => h) (Or.inl ⟨by rfl, ?_⟩) ?_ ?_
                                                                        rotate_left
                                                                        · intro w'
                                                                          go_simp
                                                                          with_reducible rfl
                                                                        rotate_left
                                                                        · simp only [Act.put, List.setIfInBounds_toArray, List.set_cons_zero, List.set_cons_succ, i64_w, i32_w]
                                                                          rfl
                                                                        refine take_ (i := 10) (N := some 72) (v := ?_) (a' := ?_) #[true, true, true, true, true, true, true, true, true, true, true, false, true, true, true, true, false, false, true, true, true, true, false, false, false, false, false, false, false, false, false] rfl rfl (take_ofW HT_.out HW_.out (by kernel_rfl)) (fun _ _ _ h => h) (Or.inl ⟨by rfl, ?_⟩) hHeld ?_ ?_
                                                                        rotate_left
                                                                        · rintro w' ⟨s0, s1, s2, s3⟩
                                                                          go_simp
                                                                          with_reducible rfl
                                                                        rotate_left
                                                                        · simp only [Act.put, List.setIfInBounds_toArray, List.set_cons_zero, List.set_cons_succ, i64_w, i32_w]
                                                                          rfl
                                                                        refine pure_ (i := 11) (N := some 73) (v := ?_) (a' := ?_) #[true, true, true, true, true, true, true, true, true, true, true, true, true, true, true, true, false, false, true, true, true, true, false, false, false, false, false, false, false, false, false] rfl rfl (any_of HT_.out (by kernel_rfl)) (fun _ _ _ h => h) (Or.inl ⟨by rfl, ?_⟩) ?_ ?_
                                                                        rotate_left
                                                                        · intro w'
                                                                          go_simp
                                                                          with_reducible rfl
                                                                        rotate_left
                                                                        · simp only [Act.put, List.setIfInBounds_toArray, List.set_cons_zero, List.set_cons_succ, i64_w, i32_w]
                                                                          rfl
                                                                        refine take_ (i := 16) (N := some 78) (v := ?_) (a' := ?_) #[true, true, true, true, true, true, true, true, true, true, true, true, true, true, true, true, true, false, true, true, true, true, false, false, false, false, false, false, false, false, false] rfl rfl (take_ofW HT_.out HW_.out (by kernel_rfl)) (fun _ _ _ h => h) (Or.inl ⟨by rfl, ?_⟩) hHeld ?_ ?_
                                                                        rotate_left
                                                                        · rintro w' ⟨s0, s1, s2, s3⟩
                                                                          go_simp
                                                                          with_reducible rfl
                                                                        rotate_left
                                                                        · simp only [Act.put, List.setIfInBounds_toArray, List.set_cons_zero, List.set_cons_succ, i64_w, i32_w]
                                                                          rfl
                                                                        refine pure_ (i := 17) (N := some 79) (v := ?_) (a' := ?_) #[true, true, true, true, true, true, true, true, true, true, true, true, true, true, true, true, true, true, true, true, true, true, false, false, false, false, false, false, false, false, false] rfl rfl (any_of HT_.out (by kernel_rfl)) (fun _ _ _ h => h) (Or.inl ⟨by rfl, ?_⟩) ?_ ?_
                                                                        rotate_left
                                                                        · intro w'
                                                                          go_simp
                                                                          with_reducible rfl
                                                                        rotate_left
                                                                        · simp only [Act.put, List.setIfInBounds_toArray, List.set_cons_zero, List.set_cons_succ, i64_w, i32_w]
                                                                          rfl
                                                                        refine take_ (i := 22) (N := some 84) (v := ?_) (a' := ?_) #[true, true, true, true, true, true, true, true, true, true, true, true, true, true, true, true, true, true, true, true, true, true, true, false, false, false, false, false, false, false, false] rfl rfl (take_ofW HT_.out HW_.out (by kernel_rfl)) (fun _ _ _ h => h) (Or.inl ⟨by rfl, ?_⟩) hHeld ?_ ?_
                                                                        rotate_left
                                                                        · rintro w' ⟨s0, s1, s2, s3⟩
                                                                          go_simp
                                                                          with_reducible rfl
                                                                        rotate_left
                                                                        · simp only [Act.put, List.setIfInBounds_toArray, List.set_cons_zero, List.set_cons_succ, i64_w, i32_w]
                                                                          rfl
                                                                        refine pure_ (i := 23) (N := some 85) (v := ?_) (a' := ?_) #[true, true, true, true, true, true, true, true, true, true, true, true, true, true, true, true, true, true, true, true, true, true, true, true, false, false, false, false, false, false, false] rfl rfl (any_of HT_.out (by kernel_rfl)) (fun _ _ _ h => h) (Or.inl ⟨by rfl, ?_⟩) ?_ ?_
                                                                        rotate_left
                                                                        · intro w'
                                                                          go_simp
                                                                          with_reducible rfl
                                                                        rotate_left
                                                                        · simp only [Act.put, List.setIfInBounds_toArray, List.set_cons_zero, List.set_cons_succ, i64_w, i32_w]
                                                                          rfl
                                                                        refine pure_ (i := 24) (N := some 86) (v := ?_) (a' := ?_) #[true, true, true, true, true, true, true, true, true, true, true, true, true, true, true, true, true, true, true, true, true, true, true, true, true, false, false, false, false, false, false] rfl rfl (any_of HT_.out (by kernel_rfl)) (fun _ _ _ h => h) (Or.inl ⟨by rfl, ?_⟩) ?_ ?_
                                                                        rotate_left
                                                                        · intro w'
                                                                          go_simp
                                                                          with_reducible rfl
                                                                        rotate_left
                                                                        · simp only [Act.put, List.setIfInBounds_toArray, List.set_cons_zero, List.set_cons_succ, i64_w, i32_w]
                                                                          rfl
                                                                        refine pure_ (i := 25) (N := some 87) (v := ?_) (a' := ?_) #[true, true, true, true, true, true, true, true, true, true, true, true, true, true, true, true, true, true, true, true, true, true, true, true, true, true, false, false, false, false, false] rfl rfl (any_of HT_.out (by kernel_rfl)) (fun _ _ _ h => h) (Or.inl ⟨by rfl, ?_⟩) ?_ ?_
                                                                        rotate_left
                                                                        · intro w'
                                                                          go_simp
                                                                          with_reducible rfl
                                                                        rotate_left
                                                                        · simp only [Act.put, List.setIfInBounds_toArray, List.set_cons_zero, List.set_cons_succ, i64_w, i32_w]
                                                                          rfl
                                                                        refine pure_ (i := 26) (N := some 88) (v := ?_) (a' := ?_) #[true, true, true, true, true, true, true, true, true, true, true, true, true, true, true, true, true, true, true, true, true, true, true, true, true, true, true, false, false, false, false] rfl rfl (any_of HT_.out (by kernel_rfl)) (fun _ _ _ h => h) (Or.inl ⟨by rfl, ?_⟩) ?_ ?_
                                                                        rotate_left
                                                                        · intro w'
                                                                          go_simp
                                                                          with_reducible rfl
                                                                        rotate_left
                                                                        · simp only [Act.put, List.setIfInBounds_toArray, List.set_cons_zero, List.set_cons_succ, i64_w, i32_w]
                                                                          rfl
                                                                        refine pure_ (i := 27) (N := some 89) (v := ?_) (a' := ?_) #[true, true, true, true, true, true, true, true, true, true, true, true, true, true, true, true, true, true, true, true, true, true, true, true, true, true, true, true, false, false, false] rfl rfl (any_of HT_.out (by kernel_rfl)) (fun _ _ _ h => h) (Or.inl ⟨by rfl, ?_⟩) ?_ ?_
                                                                        rotate_left
                                                                        · intro w'
                                                                          go_simp
                                                                          with_reducible rfl
                                                                        rotate_left
                                                                        · simp only [Act.put, List.setIfInBounds_toArray, List.set_cons_zero, List.set_cons_succ, i64_w, i32_w]
                                                                          rfl
                                                                        refine pure_ (i := 28) (N := some 90) (v := ?_) (a' := ?_) #[true, true, true, true, true, true, true, true, true, true, true, true, true, true, true, true, true, true, true, true, true, true, true, true, true, true, true, true, true, false, false] rfl rfl (any_of HT_.out (by kernel_rfl)) (fun _ _ _ h => h) (Or.inl ⟨by rfl, ?_⟩) ?_ ?_
                                                                        rotate_left
                                                                        · intro w'
                                                                          go_simp
                                                                          with_reducible rfl
                                                                        rotate_left
                                                                        · simp only [Act.put, List.setIfInBounds_toArray, List.set_cons_zero, List.set_cons_succ, i64_w, i32_w]
                                                                          rfl
                                                                        refine pure_ (i := 29) (N := some 91) (v := ?_) (a' := ?_) #[true, true, true, true, true, true, true, true, true, true, true, true, true, true, true, true, true, true, true, true, true, true, true, true, true, true, true, true, true, true, false] rfl rfl (any_of HT_.out (by kernel_rfl)) (fun _ _ _ h => h) (Or.inl ⟨by rfl, ?_⟩) ?_ ?_
                                                                        rotate_left
                                                                        · intro w'
                                                                          go_simp
                                                                          with_reducible rfl
                                                                        rotate_left
                                                                        · simp only [Act.put, List.setIfInBounds_toArray, List.set_cons_zero, List.set_cons_succ, i64_w, i32_w]
                                                                          rfl
                                                                        refine pure_ (i := 30) (N := some 10) (v := ?_) (a' := ?_) #[true, true, true, true, true, true, true, true, true, true, true, true, true, true, true, true, true, true, true, true, true, true, true, true, true, true, true, true, true, true, true] rfl rfl (any_of HT_.out (by kernel_rfl)) (fun _ _ _ h => h) (Or.inl ⟨by rfl, ?_⟩) ?_ ?_
                                                                        rotate_left
                                                                        · intro w'
                                                                          go_simp
                                                                          with_reducible rfl
                                                                        rotate_left
                                                                        · simp only [Act.put, List.setIfInBounds_toArray, List.set_cons_zero, List.set_cons_succ, i64_w, i32_w]
                                                                          rfl
                                                                        refine done_ (done_of HT_.out (by kernel_rfl)) ?_
                                                                        try go_wp2
                                                                        have n0_ := Aside0.mk (Kd.S_drew HO_4.out)
                                                                        have n1_ := Aside0.mk (Kd.R_drew HO_173001.out)
                                                                        have n2_ := Aside0.mk (blk_drew BK172.out)
                                                                        have n3_ := Aside0.mk (below_drew1 HB.out)
                                                                        clear HO_4
                                                                        clear HO_173001
                                                                        clear BK172
                                                                        clear HB
                                                                        have HO_4 := n0_
                                                                        have HO_173001 := n1_
                                                                        have BK172 := n2_
                                                                        have HB := n3_
                                                                        clear n0_ n1_ n2_ n3_
                                                                        have p185 : 0 ≤ (x5_3 : Int) := of_decide_eq_true (by first | (with_reducible assumption) | assumption)
                                                                        have q185 : x5_3 < (l0.length : Int) := of_decide_eq_true (by first | (with_reducible assumption) | assumption)
                                                                        obtain ⟨ad185, e185, hx185_0⟩ := Kd.at_int HR0.out x5_3 p185 q185
                                                                        have hw185_0 := hx185_0
                                                                        obtain rfl : ad170 = ad185 := (by injection e185)
                                                                        replace hx185_0 := (HB.out.cell (World.block_lt_of_cell? w _ hx185_0)).trans hx185_0
                                                                        replace p185 := eq_true p185
                                                                        replace q185 := eq_true q185
                                                                        have p186 : 0 ≤ ((ji53) : Int) := of_decide_eq_true (by first | (with_reducible assumption) | assumption)
                                                                        have q186 : (ji53) < (l0.length : Int) := of_decide_eq_true (by first | (with_reducible assumption) | assumption)
                                                                        obtain ⟨ad186, e186, hx186_0⟩ := Kd.at_int HR0.out (ji53) p186 q186
                                                                        have hw186_0 := hx186_0
                                                                        obtain rfl : ad170 = ad186 := (by injection e186)
                                                                        replace hx186_0 := (HB.out.cell (World.block_lt_of_cell? w _ hx186_0)).trans hx186_0
                                                                        replace p186 := eq_true p186
                                                                        replace q186 := eq_true q186
                                                                        have p187 : 0 ≤ ((ji56) : Int) := of_decide_eq_true (by first | (with_reducible assumption) | assumption)
                                                                        have q187 : (ji56) < (l0.length : Int) := of_decide_eq_true (by first | (with_reducible assumption) | assumption)
                                                                        obtain ⟨ad187, e187, hx187_0⟩ := Kd.at_int HR0.out (ji56) p187 q187
                                                                        have hw187_0 := hx187_0
                                                                        obtain rfl : ad170 = ad187 := (by injection e187)
                                                                        replace hx187_0 := (HB.out.cell (World.block_lt_of_cell? w _ hx187_0)).trans hx187_0
                                                                        replace p187 := eq_true p187
                                                                        replace q187 := eq_true q187
                                                                        have p188 : 0 ≤ ((ji59) : Int) := of_decide_eq_true (by first | (with_reducible assumption) | assumption)
                                                                        have q188 : (ji59) < (l0.length : Int) := of_decide_eq_true (by first | (with_reducible assumption) | assumption)
                                                                        obtain ⟨ad188, e188, hx188_0⟩ := Kd.at_int HR0.out (ji59) p188 q188
                                                                        have hw188_0 := hx188_0
                                                                        obtain rfl : ad170 = ad188 := (by injection e188)
                                                                        replace hx188_0 := (HB.out.cell (World.block_lt_of_cell? w _ hx188_0)).trans hx188_0
                                                                        replace p188 := eq_true p188
                                                                        replace q188 := eq_true q188
                                                                        refine start_ (n := 31) (S := fun w' => w'.cell? ⟨gb172, 0, none⟩ = some (.int .i64 (wrap64 (rd l0 x5_2))) ∧ w'.cell? ⟨gb172, 1, none⟩ = some (u173001) ∧ w'.cell? (ad170.add (x5_3).toNat) = some (.int .u8 (rd l0 x5_3)) ∧ w'.cell? (ad170.add ((ji53)).toNat) = some (.int .u8 (rd l0 (ji53))) ∧ w'.cell? (ad170.add ((ji56)).toNat) = some (.int .u8 (rd l0 (ji56))) ∧ w'.cell? (ad170.add ((ji59)).toNat) = some (.int .u8 (rd l0 (ji59)))) (ds := [30]) #[false, false, false, false, false, false, false, false, false, false, false, false, false, false, false, false, false, false, false, false, false, false, false, false, false, false, false, false, false, false, false] (by kernel_rfl) rfl rfl ⟨(blk_cell BK172.out 0).trans rfl, (blk_cell BK172.out 1).trans rfl, ((HB.out.cell (World.block_lt_of_cell? w _ hw185_0)).trans hw185_0), ((HB.out.cell (World.block_lt_of_cell? w _ hw186_0)).trans hw186_0), ((HB.out.cell (World.block_lt_of_cell? w _ hw187_0)).trans hw187_0), ((HB.out.cell (World.block_lt_of_cell? w _ hw188_0)).trans hw188_0)⟩ (fun hHeld => ?_); refine with_tabW haymowref02_Read.tab23 haymowref02_Read.bits23 (fun HT_ HW_ => ?_)
                                                                        generalize w63.drew = w64 at HO_4 HO_173001 BK172 HB hx185_0 hx186_0 hx187_0 hx188_0 hHeld ⊢
                                                                        refine pure_ (i := 0) (N := some 96) (v := ?_) (a' := ?_) #[true, false, false, false, false, false, false, false, false, false, false, false, false, false, false, false, false, false, false, false, false, false, false, false, false, false, false, false, false, false, false] rfl rfl (any_of HT_.out (by kernel_rfl)) (fun _ _ _ h => h) (Or.inl ⟨by rfl, ?_⟩) ?_ ?_
                                                                        rotate_left
                                                                        · intro w'
                                                                          go_simp
                                                                          with_reducible rfl
                                                                        rotate_left
                                                                        · simp only [Act.put, List.setIfInBounds_toArray, List.set_cons_zero, List.set_cons_succ, i64_w, i32_w]
                                                                          rfl
                                                                        refine pure_ (i := 2) (N := some 98) (v := ?_) (a' := ?_) #[true, false, true, false, false, false, false, false, false, false, false, false, false, false, false, false, false, false, false, false, false, false, false, false, false, false, false, false, false, false, false] rfl rfl (any_of HT_.out (by kernel_rfl)) (fun _ _ _ h => h) (Or.inl ⟨by rfl, ?_⟩) ?_ ?_
                                                                        rotate_left
                                                                        · intro w'
                                                                          go_simp
                                                                          with_reducible rfl
                                                                        rotate_left
                                                                        · simp only [Act.put, List.setIfInBounds_toArray, List.set_cons_zero, List.set_cons_succ, i64_w, i32_w]
                                                                          rfl
                                                                        refine pure_ (i := 3) (N := some 99) (v := ?_) (a' := ?_) #[true, false, true, true, false, false, false, false, false, false, false, false, false, false, false, false, false, false, false, false, false, false, false, false, false, false, false, false, false, false, false] rfl rfl (any_of HT_.out (by kernel_rfl)) (fun _ _ _ h => h) (Or.inl ⟨by rfl, ?_⟩) ?_ ?_
                                                                        rotate_left
                                                                        · intro w'
                                                                          go_simp
                                                                          with_reducible rfl
                                                                        rotate_left
                                                                        · simp only [Act.put, List.setIfInBounds_toArray, List.set_cons_zero, List.set_cons_succ, i64_w, i32_w]
                                                                          rfl
                                                                        refine pure_ (i := 4) (N := some 100) (v := ?_) (a' := ?_) #[true, false, true, true, true, false, false, false, false, false, false, false, false, false, false, false, false, false, false, false, false, false, false, false, false, false, false, false, false, false, false] rfl rfl (any_of HT_.out (by kernel_rfl)) (fun _ _ _ h => h) (Or.inl ⟨by rfl, ?_⟩) ?_ ?_
                                                                        rotate_left
                                                                        · intro w'
                                                                          go_simp
                                                                          with_reducible rfl
                                                                        rotate_left
                                                                        · simp only [Act.put, List.setIfInBounds_toArray, List.set_cons_zero, List.set_cons_succ, i64_w, i32_w]
                                                                          rfl
                                                                        refine pure_ (i := 7) (N := some 103) (v := ?_) (a' := ?_) #[true, false, true, true, true, false, false, true, false, false, false, false, false, false, false, false, false, false, false, false, false, false, false, false, false, false, false, false, false, false, false] rfl rfl (any_of HT_.out (by kernel_rfl)) (fun _ _ _ h => h) (Or.inl ⟨by rfl, ?_⟩) ?_ ?_
                                                                        rotate_left
                                                                        · intro w'
                                                                          go_simp
                                                                          with_reducible rfl
                                                                        rotate_left
                                                                        · simp only [Act.put, List.setIfInBounds_toArray, List.set_cons_zero, List.set_cons_succ, i64_w, i32_w]
                                                                          rfl
                                                                        refine pure_ (i := 8) (N := some 104) (v := ?_) (a' := ?_) #[true, false, true, true, true, false, false, true, true, false, false, false, false, false, false, false, false, false, false, false, false, false, false, false, false, false, false, false, false, false, false] rfl rfl (any_of HT_.out (by kernel_rfl)) (fun _ _ _ h => h) (Or.inl ⟨by rfl, ?_⟩) ?_ ?_
                                                                        rotate_left
                                                                        · intro w'
                                                                          go_simp
                                                                          with_reducible rfl
                                                                        rotate_left
                                                                        · simp only [Act.put, List.setIfInBounds_toArray, List.set_cons_zero, List.set_cons_succ, i64_w, i32_w]
                                                                          rfl
                                                                        refine pure_ (i := 9) (N := some 105) (v := ?_) (a' := ?_) #[true, false, true, true, true, false, false, true, true, true, false, false, false, false, false, false, false, false, false, false, false, false, false, false, false, false, false, false, false, false, false] rfl rfl (any_of HT_.out (by kernel_rfl)) (fun _ _ _ h => h) (Or.inl ⟨by rfl, ?_⟩) ?_ ?_
                                                                        rotate_left
                                                                        · intro w'
                                                                          go_simp
                                                                          with_reducible rfl
                                                                        rotate_left
                                                                        · simp only [Act.put, List.setIfInBounds_toArray, List.set_cons_zero, List.set_cons_succ, i64_w, i32_w]
                                                                          rfl
                                                                        refine pure_ (i := 10) (N := some 106) (v := ?_) (a' := ?_) #[true, false, true, true, true, false, false, true, true, true, true, false, false, false, false, false, false, false, false, false, false, false, false, false, false, false, false, false, false, false, false] rfl rfl (any_of HT_.out (by kernel_rfl)) (fun _ _ _ h => h) (Or.inl ⟨by rfl, ?_⟩) ?_ ?_
                                                                        rotate_left
                                                                        · intro w'
                                                                          go_simp
                                                                          with_reducible rfl
                                                                        rotate_left
                                                                        · simp only [Act.put, List.setIfInBounds_toArray, List.set_cons_zero, List.set_cons_succ, i64_w, i32_w]
                                                                          rfl
                                                                        refine pure_ (i := 13) (N := some 109) (v := ?_) (a' := ?_) #[true, false, true, true, true, false, false, true, true, true, true, false, false, true, false, false, false, false, false, false, false, false, false, false, false, false, false, false, false, false, false] rfl rfl (any_of HT_.out (by kernel_rfl)) (fun _ _ _ h => h) (Or.inl ⟨by rfl, ?_⟩) ?_ ?_
                                                                        rotate_left
                                                                        · intro w'
                                                                          go_simp
                                                                          with_reducible rfl
                                                                        rotate_left
                                                                        · simp only [Act.put, List.setIfInBounds_toArray, List.set_cons_zero, List.set_cons_succ, i64_w, i32_w]
                                                                          rfl
                                                                        refine pure_ (i := 14) (N := some 110) (v := ?_) (a' := ?_) #[true, false, true, true, true, false, false, true, true, true, true, false, false, true, true, false, false, false, false, false, false, false, false, false, false, false, false, false, false, false, false] rfl rfl (any_of HT_.out (by kernel_rfl)) (fun _ _ _ h => h) (Or.inl ⟨by rfl, ?_⟩) ?_ ?_
                                                                        rotate_left
                                                                        · intro w'
                                                                          go_simp
                                                                          with_reducible rfl
                                                                        rotate_left
                                                                        · simp only [Act.put, List.setIfInBounds_toArray, List.set_cons_zero, List.set_cons_succ, i64_w, i32_w]
                                                                          rfl
                                                                        refine pure_ (i := 15) (N := some 111) (v := ?_) (a' := ?_) #[true, false, true, true, true, false, false, true, true, true, true, false, false, true, true, true, false, false, false, false, false, false, false, false, false, false, false, false, false, false, false] rfl rfl (any_of HT_.out (by kernel_rfl)) (fun _ _ _ h => h) (Or.inl ⟨by rfl, ?_⟩) ?_ ?_
                                                                        rotate_left
                                                                        · intro w'
                                                                          go_simp
                                                                          with_reducible rfl
                                                                        rotate_left
                                                                        · simp only [Act.put, List.setIfInBounds_toArray, List.set_cons_zero, List.set_cons_succ, i64_w, i32_w]
                                                                          rfl
                                                                        refine pure_ (i := 16) (N := some 112) (v := ?_) (a' := ?_) #[true, false, true, true, true, false, false, true, true, true, true, false, false, true, true, true, true, false, false, false, false, false, false, false, false, false, false, false, false, false, false] rfl rfl (any_of HT_.out (by kernel_rfl)) (fun _ _ _ h => h) (Or.inl ⟨by rfl, ?_⟩) ?_ ?_
                                                                        rotate_left
                                                                        · intro w'
                                                                          go_simp
                                                                          with_reducible rfl
                                                                        rotate_left
                                                                        · simp only [Act.put, List.setIfInBounds_toArray, List.set_cons_zero, List.set_cons_succ, i64_w, i32_w]
                                                                          rfl
                                                                        refine pure_ (i := 19) (N := some 115) (v := ?_) (a' := ?_) #[true, false, true, true, true, false, false, true, true, true, true, false, false, true, true, true, true, false, false, true, false, false, false, false, false, false, false, false, false, false, false] rfl rfl (any_of HT_.out (by kernel_rfl)) (fun _ _ _ h => h) (Or.inl ⟨by rfl, ?_⟩) ?_ ?_
                                                                        rotate_left
                                                                        · intro w'
                                                                          go_simp
                                                                          with_reducible rfl
                                                                        rotate_left
                                                                        · simp only [Act.put, List.setIfInBounds_toArray, List.set_cons_zero, List.set_cons_succ, i64_w, i32_w]
                                                                          rfl
                                                                        refine pure_ (i := 20) (N := some 116) (v := ?_) (a' := ?_) #[true, false, true, true, true, false, false, true, true, true, true, false, false, true, true, true, true, false, false, true, true, false, false, false, false, false, false, false, false, false, false] rfl rfl (any_of HT_.out (by kernel_rfl)) (fun _ _ _ h => h) (Or.inl ⟨by rfl, ?_⟩) ?_ ?_
                                                                        rotate_left
                                                                        · intro w'
                                                                          go_simp
                                                                          with_reducible rfl
                                                                        rotate_left
                                                                        · simp only [Act.put, List.setIfInBounds_toArray, List.set_cons_zero, List.set_cons_succ, i64_w, i32_w]
                                                                          rfl
                                                                        refine pure_ (i := 21) (N := some 117) (v := ?_) (a' := ?_) #[true, false, true, true, true, false, false, true, true, true, true, false, false, true, true, true, true, false, false, true, true, true, false, false, false, false, false, false, false, false, false] rfl rfl (any_of HT_.out (by kernel_rfl)) (fun _ _ _ h => h) (Or.inl ⟨by rfl, ?_⟩) ?_ ?_
                                                                        rotate_left
                                                                        · intro w'
                                                                          go_simp
                                                                          with_reducible rfl
                                                                        rotate_left
                                                                        · simp only [Act.put, List.setIfInBounds_toArray, List.set_cons_zero, List.set_cons_succ, i64_w, i32_w]
                                                                          rfl
                                                                        refine pure_ (i := 22) (N := some 118) (v := ?_) (a' := ?_) #[true, false, true, true, true, false, false, true, true, true, true, false, false, true, true, true, true, false, false, true, true, true, true, false, false, false, false, false, false, false, false] rfl rfl (any_of HT_.out (by kernel_rfl)) (fun _ _ _ h => h) (Or.inl ⟨by rfl, ?_⟩) ?_ ?_
                                                                        rotate_left
                                                                        · intro w'
                                                                          go_simp
                                                                          with_reducible rfl
                                                                        rotate_left
                                                                        · simp only [Act.put, List.setIfInBounds_toArray, List.set_cons_zero, List.set_cons_succ, i64_w, i32_w]
                                                                          rfl
                                                                        refine pure_ (i := 25) (N := some 121) (v := ?_) (a' := ?_) #[true, false, true, true, true, false, false, true, true, true, true, false, false, true, true, true, true, false, false, true, true, true, true, false, false, true, false, false, false, false, false] rfl rfl (any_of HT_.out (by kernel_rfl)) (fun _ _ _ h => h) (Or.inl ⟨by rfl, ?_⟩) ?_ ?_
                                                                        rotate_left
                                                                        · intro w'
                                                                          go_simp
                                                                          with_reducible rfl
                                                                        rotate_left
                                                                        · simp only [Act.put, List.setIfInBounds_toArray, List.set_cons_zero, List.set_cons_succ, i64_w, i32_w]
                                                                          rfl
                                                                        refine take_ (i := 1) (N := some 97) (v := ?_) (a' := ?_) #[true, true, true, true, true, false, false, true, true, true, true, false, false, true, true, true, true, false, false, true, true, true, true, false, false, true, false, false, false, false, false] rfl rfl (take_ofW HT_.out HW_.out (by kernel_rfl)) (fun _ _ _ h => h) (Or.inl ⟨by rfl, ?_⟩) hHeld ?_ ?_
                                                                        rotate_left
                                                                        · rintro w' ⟨s0, s1, s2, s3, s4, s5⟩
                                                                          go_simp
                                                                          with_reducible rfl
                                                                        rotate_left
                                                                        · simp only [Act.put, List.setIfInBounds_toArray, List.set_cons_zero, List.set_cons_succ, i64_w, i32_w]
                                                                          rfl
                                                                        refine take_ (i := 5) (N := some 101) (v := ?_) (a' := ?_) #[true, true, true, true, true, true, false, true, true, true, true, false, false, true, true, true, true, false, false, true, true, true, true, false, false, true, false, false, false, false, false] rfl rfl (take_ofW HT_.out HW_.out (by kernel_rfl)) (fun _ _ _ h => h) (Or.inl ⟨by rfl, ?_⟩) hHeld ?_ ?_
                                                                        rotate_left
                                                                        · rintro w' ⟨s0, s1, s2, s3, s4, s5⟩
                                                                          go_simp
                                                                          with_reducible rfl
                                                                        rotate_left
                                                                        · simp only [Act.put, List.setIfInBounds_toArray, List.set_cons_zero, List.set_cons_succ, i64_w, i32_w]
                                                                          rfl
                                                                        refine pure_ (i := 6) (N := some 102) (v := ?_) (a' := ?_) #[true, true, true, true, true, true, true, true, true, true, true, false, false, true, true, true, true, false, false, true, true, true, true, false, false, true, false, false, false, false, false] rfl rfl (any_of HT_.out (by kernel_rfl)) (fun _ _ _ h => h) (Or.inl ⟨by rfl, ?_⟩) ?_ ?_
                                                                        rotate_left
                                                                        · intro w'
                                                                          go_simp
                                                                          with_reducible rfl
                                                                        rotate_left
                                                                        · simp only [Act.put, List.setIfInBounds_toArray, List.set_cons_zero, List.set_cons_succ, i64_w, i32_w]
                                                                          rfl
                                                                        refine take_ (i := 11) (N := some 107) (v := ?_) (a' := ?_) #[true, true, true, true, true, true, true, true, true, true, true, true, false, true, true, true, true, false, false, true, true, true, true, false, false, true, false, false, false, false, false] rfl rfl (take_ofW HT_.out HW_.out (by kernel_rfl)) (fun _ _ _ h => h) (Or.inl ⟨by rfl, ?_⟩) hHeld ?_ ?_
                                                                        rotate_left
                                                                        · rintro w' ⟨s0, s1, s2, s3, s4, s5⟩
                                                                          go_simp
                                                                          with_reducible rfl
                                                                        rotate_left
                                                                        · simp only [Act.put, List.setIfInBounds_toArray, List.set_cons_zero, List.set_cons_succ, i64_w, i32_w]
                                                                          rfl
                                                                        refine pure_ (i := 12) (N := some 108) (v := ?_) (a' := ?_) #[true, true, true, true, true, true, true, true, true, true, true, true, true, true, true, true, true, false, false, true, true, true, true, false, false, true, false, false, false, false, false] rfl rfl (any_of HT_.out (by kernel_rfl)) (fun _ _ _ h => h) (Or.inl ⟨by rfl, ?_⟩) ?_ ?_
                                                                        rotate_left
                                                                        · intro w'
                                                                          go_simp
                                                                          with_reducible rfl
                                                                        rotate_left
                                                                        · simp only [Act.put, List.setIfInBounds_toArray, List.set_cons_zero, List.set_cons_succ, i64_w, i32_w]
                                                                          rfl
                                                                        refine take_ (i := 17) (N := some 113) (v := ?_) (a' := ?_) #[true, true, true, true, true, true, true, true, true, true, true, true, true, true, true, true, true, true, false, true, true, true, true, false, false, true, false, false, false, false, false] rfl rfl (take_ofW HT_.out HW_.out (by kernel_rfl)) (fun _ _ _ h => h) (Or.inl ⟨by rfl, ?_⟩) hHeld ?_ ?_
                                                                        rotate_left
                                                                        · rintro w' ⟨s0, s1, s2, s3, s4, s5⟩
                                                                          go_simp
                                                                          with_reducible rfl
                                                                        rotate_left
                                                                        · simp only [Act.put, List.setIfInBounds_toArray, List.set_cons_zero, List.set_cons_succ, i64_w, i32_w]
                                                                          rfl
                                                                        refine pure_ (i := 18) (N := some 114) (v := ?_) (a' := ?_) #[true, true, true, true, true, true, true, true, true, true, true, true, true, true, true, true, true, true, true, true, true, true, true, false, false, true, false, false, false, false, false] rfl rfl (any_of HT_.out (by kernel_rfl)) (fun _ _ _ h => h) (Or.inl ⟨by rfl, ?_⟩) ?_ ?_
                                                                        rotate_left
                                                                        · intro w'
                                                                          go_simp
                                                                          with_reducible rfl
                                                                        rotate_left
                                                                        · simp only [Act.put, List.setIfInBounds_toArray, List.set_cons_zero, List.set_cons_succ, i64_w, i32_w]
                                                                          rfl
                                                                        refine take_ (i := 23) (N := some 119) (v := ?_) (a' := ?_) #[true, true, true, true, true, true, true, true, true, true, true, true, true, true, true, true, true, true, true, true, true, true, true, true, false, true, false, false, false, false, false] rfl rfl (take_ofW HT_.out HW_.out (by kernel_rfl)) (fun _ _ _ h => h) (Or.inl ⟨by rfl, ?_⟩) hHeld ?_ ?_
                                                                        rotate_left
                                                                        · rintro w' ⟨s0, s1, s2, s3, s4, s5⟩
                                                                          go_simp
                                                                          with_reducible rfl
                                                                        rotate_left
                                                                        · simp only [Act.put, List.setIfInBounds_toArray, List.set_cons_zero, List.set_cons_succ, i64_w, i32_w]
                                                                          rfl
                                                                        refine pure_ (i := 24) (N := some 120) (v := ?_) (a' := ?_) #[true, true, true, true, true, true, true, true, true, true, true, true, true, true, true, true, true, true, true, true, true, true, true, true, true, true, false, false, false, false, false] rfl rfl (any_of HT_.out (by kernel_rfl)) (fun _ _ _ h => h) (Or.inl ⟨by rfl, ?_⟩) ?_ ?_
                                                                        rotate_left
                                                                        · intro w'
                                                                          go_simp
                                                                          with_reducible rfl
                                                                        rotate_left
                                                                        · simp only [Act.put, List.setIfInBounds_toArray, List.set_cons_zero, List.set_cons_succ, i64_w, i32_w]
                                                                          rfl
                                                                        refine pure_ (i := 26) (N := some 122) (v := ?_) (a' := ?_) #[true, true, true, true, true, true, true, true, true, true, true, true, true, true, true, true, true, true, true, true, true, true, true, true, true, true, true, false, false, false, false] rfl rfl (any_of HT_.out (by kernel_rfl)) (fun _ _ _ h => h) (Or.inl ⟨by rfl, ?_⟩) ?_ ?_
                                                                        rotate_left
                                                                        · intro w'
                                                                          go_simp
                                                                          with_reducible rfl
                                                                        rotate_left
                                                                        · simp only [Act.put, List.setIfInBounds_toArray, List.set_cons_zero, List.set_cons_succ, i64_w, i32_w]
                                                                          rfl
                                                                        refine one_ (i := 27) (N := some 123) #[true, true, true, true, true, true, true, true, true, true, true, true, true, true, true, true, true, true, true, true, true, true, true, true, true, true, true, true, false, false, false] rfl rfl (one_of HT_.out (by kernel_rfl)) (by decide) (fun K hK => ?_)
                                                                        refine value_ (w1 := ?_) (v := ?_) (by rfl) rfl ?_ ?_
                                                                        rotate_left 2
                                                                        · go_simp
                                                                          constructor
                                                                          · rfl
                                                                          · rfl
                                                                        refine hK.out _ _ ⟨(blk_cell (blk_alloc BK172.out _) 0).trans rfl, (blk_cell (blk_alloc BK172.out _) 1).trans rfl, (World.cell?_alloc_lt _ _ _ (World.block_lt_of_cell? _ _ (((HB.out.cell (World.block_lt_of_cell? w _ hw185_0)).trans hw185_0)))).trans (((HB.out.cell (World.block_lt_of_cell? w _ hw185_0)).trans hw185_0)), (World.cell?_alloc_lt _ _ _ (World.block_lt_of_cell? _ _ (((HB.out.cell (World.block_lt_of_cell? w _ hw186_0)).trans hw186_0)))).trans (((HB.out.cell (World.block_lt_of_cell? w _ hw186_0)).trans hw186_0)), (World.cell?_alloc_lt _ _ _ (World.block_lt_of_cell? _ _ (((HB.out.cell (World.block_lt_of_cell? w _ hw187_0)).trans hw187_0)))).trans (((HB.out.cell (World.block_lt_of_cell? w _ hw187_0)).trans hw187_0)), (World.cell?_alloc_lt _ _ _ (World.block_lt_of_cell? _ _ (((HB.out.cell (World.block_lt_of_cell? w _ hw188_0)).trans hw188_0)))).trans (((HB.out.cell (World.block_lt_of_cell? w _ hw188_0)).trans hw188_0))⟩ (fun hHeld => ?_)
                                                                        clear hK K
                                                                        refine norm_ (a' := ?_) ?_ ?_
                                                                        rotate_left
                                                                        · show Act.put _ (some 123) _ = _
                                                                          simp only [Act.put, List.setIfInBounds_toArray, List.set_cons_zero, List.set_cons_succ, i64_w, i32_w]
                                                                          rfl
                                                                        refine one_ (i := 28) (N := some 124) #[true, true, true, true, true, true, true, true, true, true, true, true, true, true, true, true, true, true, true, true, true, true, true, true, true, true, true, true, true, false, false] rfl rfl (one_of HT_.out (by kernel_rfl)) (by decide) (fun K hK => ?_)
                                                                        refine Kd.R_append_step k56 (w0 := w) w.heap.size (by rfl) (.tmp 97) (.tmp 123) 49 56 (.agg #[(.int .i64 0), (.int .i64 0), (.int .i64 0), (.int .i64 0), (.int .i64 0)]) 40 rfl Try.underlying49 info56 rfl (by decide) (by omega) u173001 x173001_3 (⟨wrap64 (rd l0 x5_3), wrap64 (rd l0 (ji53)), wrap64 (rd l0 (ji56)), wrap64 (rd l0 (ji59)), wrap64 ((wrap64 (rd l0 (ji21))) + (wrap64 (256 * (wrap64 ((wrap64 (rd l0 (ji24))) + (wrap64 (256 * (wrap64 ((wrap64 (rd l0 (ji27))) + (wrap64 (256 * (wrap64 (rd l0 (ji30))))))))))))))⟩ : S56) [.int .i64 (wrap64 (rd l0 x5_3)), .int .i64 (wrap64 (rd l0 (ji53))), .int .i64 (wrap64 (rd l0 (ji56))), .int .i64 (wrap64 (rd l0 (ji59))), .int .i64 (wrap64 ((wrap64 (rd l0 (ji21))) + (wrap64 (256 * (wrap64 ((wrap64 (rd l0 (ji24))) + (wrap64 (256 * (wrap64 ((wrap64 (rd l0 (ji27))) + (wrap64 (256 * (wrap64 (rd l0 (ji30)))))))))))))))] (fun _ => True) (fun _ => False) rfl rfl ?aP (fun _ hk => hk.elim) ?aF ?aO ?aB ?aS ?aL ?_
                                                                        (case aP => exact k56_mkM _ _ _ (⟨wrap64 (rd l0 x5_3), wrap64 (rd l0 (ji53)), wrap64 (rd l0 (ji56)), wrap64 (rd l0 (ji59)), wrap64 ((wrap64 (rd l0 (ji21))) + (wrap64 (256 * (wrap64 ((wrap64 (rd l0 (ji24))) + (wrap64 (256 * (wrap64 ((wrap64 (rd l0 (ji27))) + (wrap64 (256 * (wrap64 (rd l0 (ji30))))))))))))))⟩ : S56))
                                                                        (case aB => exact (by repeat (first | (with_reducible first | exact HB.out | apply below_alloc | apply pw_below_drewN | apply below_drew1 | refine below_set ?_ GE172.out) | exact HB.out)))
                                                                        (case aF => exact (fun _ _ => trivial))
                                                                        (case aO => exact (by (with_reducible repeat (first | apply Kd.R_alloc | apply Kd.R_drewN | apply Kd.R_drew)); exact HO_173001.out))
                                                                        (case aS => exact (below_size (by repeat (first | (with_reducible first | exact HB.out | apply below_alloc | apply pw_below_drewN | apply below_drew1 | refine below_set ?_ GE172.out) | exact HB.out))))
                                                                        (case aL => have := LMc62.out; omega)
                                                                        intro v190 w65 ho hb hg hat
                                                                        rw [← Ny189.out] at ho
                                                                        have n0_ := Aside0.mk (Kd.S_after (ok := (fun k_ => k_ ≠ gb172)) (by (with_reducible repeat (first | apply Kd.S_alloc | apply Kd.S_drewN | apply Kd.S_drew)); exact Kd.S_mono HO_4.out (fun _ hk => ⟨hk.2, hk.1⟩)) hg hat)
                                                                        have n1_ := Aside0.mk (blk_grown (g := gb172) (o := .cells #[.int .i64 (wrap64 (rd l0 x5_2)), u173001] 51 (0, 0)) (by (with_reducible repeat (first | refine blk_drewN ?_ _ | refine blk_drew ?_ | refine blk_alloc ?_ _)); exact BK172.out) hg (Kd.R_ne HO_173001.out BK172.out (by decide)))
                                                                        have n2_ := Aside0.mk (hb)
                                                                        have n3_ := Aside0.mk (ho)
                                                                        clear HO_4
                                                                        clear BK172
                                                                        clear HB
                                                                        clear HO_173001
                                                                        have HO_4 := n0_
                                                                        have BK172 := n1_
                                                                        have HB := n2_
                                                                        have HO191 := n3_
                                                                        clear n0_ n1_ n2_ n3_
                                                                        clear ho hb hg hat
                                                                        obtain ⟨Ao66, co66, eo66⟩ := Kd.R_slice HO191.out
                                                                        (first | subst eo66 | (injection eo66 with f1_ f2_ f3_; have f4_ := f1_.symm; have f5_ := f3_.symm; clear f1_ f2_ f3_; subst f4_; subst f5_))
                                                                        refine hK.out _ _ ⟨(blk_cell BK172.out 0).trans rfl, (blk_cell BK172.out 1).trans rfl, ((HB.out.cell (World.block_lt_of_cell? w _ hw185_0)).trans hw185_0), ((HB.out.cell (World.block_lt_of_cell? w _ hw186_0)).trans hw186_0), ((HB.out.cell (World.block_lt_of_cell? w _ hw187_0)).trans hw187_0), ((HB.out.cell (World.block_lt_of_cell? w _ hw188_0)).trans hw188_0)⟩ (fun hHeld => ?_)
                                                                        clear hK K
                                                                        refine norm_ (a' := ?_) ?_ ?_
                                                                        rotate_left
                                                                        · show Act.put _ (some 124) _ = _
                                                                          simp only [Act.put, List.setIfInBounds_toArray, List.set_cons_zero, List.set_cons_succ, i64_w, i32_w]
                                                                          rfl
                                                                        refine pure_ (i := 29) (N := some 125) (v := ?_) (a' := ?_) #[true, true, true, true, true, true, true, true, true, true, true, true, true, true, true, true, true, true, true, true, true, true, true, true, true, true, true, true, true, true, false] rfl rfl (any_of HT_.out (by kernel_rfl)) (fun _ _ _ h => h) (Or.inl ⟨by rfl, ?_⟩) ?_ ?_
                                                                        rotate_left
                                                                        · intro w'
                                                                          go_simp
                                                                          with_reducible rfl
                                                                        rotate_left
                                                                        · simp only [Act.put, List.setIfInBounds_toArray, List.set_cons_zero, List.set_cons_succ, i64_w, i32_w]
                                                                          rfl
                                                                        refine last_ (i := 30) (N := none) #[true, true, true, true, true, true, true, true, true, true, true, true, true, true, true, true, true, true, true, true, true, true, true, true, true, true, true, true, true, true, true] rfl rfl (one_of HT_.out (by kernel_rfl)) (by decide) (fun K hK => ?_)
                                                                        have hs67 : w65.cell? ⟨gb172, 1, none⟩ = some (u173001) := (blk_cell BK172.out 1).trans rfl
                                                                        have hfs67 := blk_frozen BK172.out 1
                                                                        refine skip_ (w1 := ?_) (by rfl) rfl ?_ ?_
                                                                        rotate_left
                                                                        · go_simp
                                                                          rfl
                                                                        refine hK.out _ _ ?_
                                                                        clear hK K
                                                                        refine done_ (done_of HT_.out (by kernel_rfl)) ?_
                                                                        try go_wp2
                                                                        go_roundg k3
                                                                        case measure => have := HJ1.out; have := HK2.out; have := HK3.out; omega
                                                                        case rel => exact ⟨(wrap64 (x5_3 + 8)), (wrap64 (x9_3 + 1)), (y189), (.slice Ao66 y189.length co66), (by first | rfl | (simp; done) | (simp [*]; done)), (by first | rfl | (simp; done) | (simp [*]; done)), H', ⟨by have := HJ1.out; have := HK2.out; have := HK3.out; omega⟩, ⟨by (with_reducible repeat (first | apply Kd.S_alloc | apply Kd.S_drewN | apply Kd.S_drew)); exact Kd.S_mono (Kd.S_far (p := ⟨gb172, 1, none⟩) (Kd.S_mono HO_4.out (fun k_ hk => (⟨hk, hk.1⟩ : _ ∧ k_ ≠ gb172))) (fun _ hk => hk.2) (.slice Ao66 y189.length co66)) (fun _ hk => ⟨hk.1.2, hk.1.1⟩)⟩, ⟨by (with_reducible repeat (first | apply Kd.R_alloc | apply Kd.R_drewN | apply Kd.R_drew)); exact Kd.R_mono (Kd.R_far (p := ⟨gb172, 1, none⟩) (Kd.R_types HO191.out BK172.out (by decide)) (fun _ hk => hk.2) (.slice Ao66 y189.length co66)) (fun _ hk => trivial)⟩, ⟨by (with_reducible repeat (first | refine blk_drewN ?_ _ | refine blk_drew ?_ | refine blk_alloc ?_ _)); refine blk_put (cs := #[.int .i64 (wrap64 (rd l0 x5_2)), u173001]) ?_ 1 _ rfl; (with_reducible repeat (first | refine blk_drewN ?_ _ | refine blk_drew ?_ | refine blk_alloc ?_ _)); exact BK172.out⟩, ⟨by repeat (first | (with_reducible first | exact HB.out | apply below_alloc | apply pw_below_drewN | apply below_drew1 | refine below_set ?_ GE172.out) | exact HB.out)⟩⟩
                                                                      · rw [if_neg c62] at H
                                                                        exact absurd H (by simp)
                                                                    · rw [if_neg c61] at H
                                                                      exact absurd H (by simp)
                                                                  · rw [if_neg c60] at H
                                                                    exact absurd H (by simp)
                                                                · rw [if_neg c58] at H
                                                                  exact absurd H (by simp)
                                                              · rw [if_neg c57] at H
                                                                exact absurd H (by simp)
                                                            · rw [if_neg c55] at H
                                                              exact absurd H (by simp)
                                                          · rw [if_neg c54] at H
                                                            exact absurd H (by simp)
                                                        · rw [if_neg c52] at H
                                                          exact absurd H (by simp)
                                                      · rw [if_neg c51] at H
                                                        exact absurd H (by simp)
                                                  · rw [if_neg c32] at H
                                                    exact absurd H (by simp)
                                                · rw [if_neg c31] at H
                                                  exact absurd H (by simp)
                                              · rw [if_neg c29] at H
                                                exact absurd H (by simp)
                                            · rw [if_neg c28] at H
                                              exact absurd H (by simp)
                                          · rw [if_neg c26] at H
                                            exact absurd H (by simp)
                                        · rw [if_neg c25] at H
                                          exact absurd H (by simp)
                                      · rw [if_neg c23] at H
                                        exact absurd H (by simp)
                                    · rw [if_neg c22] at H
                                      exact absurd H (by simp)
                                  · rw [if_neg c20] at H
                                    have c20b0 : decide (x9_3 < (wrap64 (rd l0 (ji12)))) = false := decide_eq_false c20
                                    clear c20
                                    by_cases c68 : x4_2.length < 4398046511104
                                    · rw [if_pos c68] at H
                                      have LMc68 := Aside0.mk c68
                                      clear c68
                                      obtain ⟨y192, hy192⟩ : ∃ y_ : List (S51), y_ = (x4_2 ++ [(⟨(wrap64 (rd l0 x5_2)), x173001_3⟩ : S51)]) := ⟨_, rfl⟩
                                      replace H : (haymowref02_Read.l0 k3 l0 y192 x5_3 (wrap64 (x6_2 + 1))) = some (r1, r2) := by first | (rw [hy192]; with_reducible exact H) | (have H2_ := (Option.bind_some _ _).symm.trans H; rw [hy192]; with_reducible exact H2_) | (have H2_ := (Option.bind_some _ _).symm.trans H; with_reducible exact H2_) | with_reducible exact H | (rw [hy192]; exact H) | exact H
                                      have Ny192 := Aside0.mk hy192
                                      clear hy192
                                      have H' := Aside0.mk H
                                      clear H
                                      have hcz69_0 : wr.cell? ⟨gb172, 0, none⟩ = some (.int .i64 (wrap64 (rd l0 x5_2))) := (blk_cell BK172.out 0).trans rfl
                                      have hcz69_1 : wr.cell? ⟨gb172, 1, none⟩ = some (u173001) := (blk_cell BK172.out 1).trans rfl
                                      have hfz69_0 := blk_frozen BK172.out 0
                                      have hfz69_1 := blk_frozen BK172.out 1
                                      obtain ⟨Ao71, co71, eo71⟩ := Kd.R_slice HO_173001.out
                                      subst eo71
                                      go_wp2_with (first | ((with_reducible refine gate_builtin (b := .append) (xs := #[.tmp 128, .tmp 130]) rfl ?_); at_builtin; refine Kd.S_append k51 (w0 := w) w.heap.size rfl (.tmp 128) (.tmp 130) 22 51 (.agg #[(.int .i64 0), (.slice none 0 0)]) 32 rfl Try.underlying22 info51 rfl (by decide) (by omega) u4 x4_2 (⟨(wrap64 (rd l0 x5_2)), x173001_3⟩ : S51) [.int .i64 (wrap64 (rd l0 x5_2)), .slice Ao71 x173001_3.length co71] (fun k_ => k_ ≠ gb172) (fun k_ => some k_ = (.slice Ao71 x173001_3.length co71 : Value).ownBlock) rfl rfl ?aP (fun k_ hk_ => ((Kd.R_mono (ok' := fun k_ => ((fun k_ => k_ ≠ gb172)) k_ ∧ some k_ ≠ (u4 : Value).ownBlock) (Kd.R_types (Kd.R_apart' (HO_173001.out) (Kd.S_typed HO_4.out) (by decide)) BK172.out (by decide)) (fun k_ hk => ⟨hk.2, hk.1.2⟩))).1 k_ hk_.symm) ?aF ?aO ?aB ?aS ?aL ?_; (case aP => exact k51_mkM _ _ _ (⟨(wrap64 (rd l0 x5_2)), x173001_3⟩ : S51) (Kd.R_mono (Kd.R_tight rfl (Kd.R_mono (ok' := fun k_ => ((fun k_ => k_ ≠ gb172)) k_ ∧ some k_ ≠ (u4 : Value).ownBlock) (Kd.R_types (Kd.R_apart' (HO_173001.out) (Kd.S_typed HO_4.out) (by decide)) BK172.out (by decide)) (fun k_ hk => ⟨hk.2, hk.1.2⟩))) (fun _ h_ => h_))); (case aB => exact (by repeat (first | (with_reducible first | exact HB.out | apply below_alloc | apply pw_below_drewN | apply below_drew1 | refine below_set ?_ GE172.out) | exact HB.out))); (case aF => exact (fun k_ hk => Kd.freshB (g := gb172) (o := .cells #[.int .i64 (wrap64 (rd l0 x5_2)), .slice Ao71 x173001_3.length co71] 51 (0, 0)) (by (with_reducible repeat (first | refine blk_drewN ?_ _ | refine blk_drew ?_ | refine blk_alloc ?_ _)); exact BK172.out) k_ hk)); (case aO => exact (by (with_reducible repeat (first | apply Kd.S_alloc | apply Kd.S_drewN | apply Kd.S_drew)); exact Kd.S_mono HO_4.out (fun k_ hk => ⟨hk.2, fun e_ => hk.1 e_⟩))); (case aS => exact (below_size (by repeat (first | (with_reducible first | exact HB.out | apply below_alloc | apply pw_below_drewN | apply below_drew1 | refine below_set ?_ GE172.out) | exact HB.out)))); (case aL => have := LMc68.out; omega); intro v193 w70 ho hb hg hat; rw [← Ny192.out] at ho; have n0_ := Aside0.mk (blk_grown (g := gb172) (o := .cells #[.int .i64 (wrap64 (rd l0 x5_2)), .slice Ao71 x173001_3.length co71] 51 (0, 0)) (by (with_reducible repeat (first | refine blk_drewN ?_ _ | refine blk_drew ?_ | refine blk_alloc ?_ _)); exact BK172.out) hg (Kd.S_away HO_4.out (fun _ hk => hk.2))); have n1_ := Aside0.mk (hb); have n2_ := Aside0.mk (ho); clear BK172; clear HB; clear HO_4; clear HO_173001; have BK172 := n0_; have HB := n1_; have HO194 := n2_; clear n0_ n1_ n2_; clear ho hb hg hat))
                                      go_roundg k3
                                      case measure => have := HJ1.out; have := HK2.out; have := HK3.out; omega
                                      case rel => exact ⟨(y192), (x5_3), (wrap64 (x6_2 + 1)), (by first | rfl | (simp; done) | (simp [*]; done)), (by first | rfl | (simp; done) | (simp [*]; done)), H', ⟨by have := HJ1.out; have := HK2.out; have := HK3.out; omega⟩, ⟨by (with_reducible repeat (first | apply Kd.S_alloc | apply Kd.S_drewN | apply Kd.S_drew)); exact Kd.S_mono HO194.out (fun _ hk => trivial)⟩, ⟨by repeat (first | (with_reducible first | exact HB.out | apply below_alloc | apply pw_below_drewN | apply below_drew1 | refine below_set ?_ GE172.out) | exact HB.out)⟩⟩
                                    · rw [if_neg c68] at H
                                      exact absurd H (by simp)
                          · rw [if_neg c14] at H
                            exact absurd H (by simp)
                        · rw [if_neg c13] at H
                          exact absurd H (by simp)
                      · rw [if_neg c11] at H
                        exact absurd H (by simp)
                    · rw [if_neg c10] at H
                      exact absurd H (by simp)
                · rw [if_neg c8] at H
                  have c8b0 : decide (x6_2 < (wrap64 (rd l0 1))) = false := decide_eq_false c8
                  clear c8
                  by_cases c72 : x5_2 < (l0.length : Int)
                  · rw [if_pos c72] at H
                    have c72b0 : decide (x5_2 < (l0.length : Int)) = true := decide_eq_true c72
                    clear c72
                    simp only [Option.some.injEq, Prod.mk.injEq] at H
                    obtain ⟨rfl, rfl⟩ := H
                    have p170 : 0 ≤ (1 : Int) := (by omega)
                    have q170 : 1 < (l0.length : Int) := of_decide_eq_true (by first | (with_reducible assumption) | assumption)
                    obtain ⟨ad170, e170, hx170_0⟩ := Kd.at_int HR0.out 1 p170 q170
                    cases e170
                    (try simp only [show (1 : Int).toNat = 1 from rfl, Nat.reduceMul, Nat.reduceEqDiff, Go.Addr.add, ↓reduceIte] at hx170_0)
                    have qi170 : (1 < l0.length) = True := eq_true (by omega)
                    (try rw [show ((1 : Int)).toNat = 1 from rfl] at hx170_0)
                    replace hx170_0 := (HB.out.cell (World.block_lt_of_cell? w _ hx170_0)).trans hx170_0
                    replace p170 := eq_true p170
                    replace q170 := eq_true q170
                    go_wp2
                    go_ret2
                    exact ⟨_, by first | rfl | (simp [errW_none, errW_some] <;> rfl) | (simp [*, errW_none, errW_some] <;> rfl), by first | exact Kd.S_nil _ _ _ _ _ | exact Kd.N_nil _ _ _ _ _ | exact Kd.V_nil _ _ _ _ _ | exact Kd.Q_nil _ _ _ _ _ | exact Kd.R_nil _ _ _ _ _, by repeat (first | (with_reducible first | exact HB.out | apply below_alloc | apply pw_below_drewN | apply below_drew1) | exact HB.out)⟩
                  · rw [if_neg c72] at H
                    have c72b0 : decide (x5_2 < (l0.length : Int)) = false := decide_eq_false c72
                    clear c72
                    simp only [Option.some.injEq, Prod.mk.injEq] at H
                    obtain ⟨rfl, rfl⟩ := H
                    have p170 : 0 ≤ (1 : Int) := (by omega)
                    have q170 : 1 < (l0.length : Int) := of_decide_eq_true (by first | (with_reducible assumption) | assumption)
                    obtain ⟨ad170, e170, hx170_0⟩ := Kd.at_int HR0.out 1 p170 q170
                    cases e170
                    (try simp only [show (1 : Int).toNat = 1 from rfl, Nat.reduceMul, Nat.reduceEqDiff, Go.Addr.add, ↓reduceIte] at hx170_0)
                    have qi170 : (1 < l0.length) = True := eq_true (by omega)
                    (try rw [show ((1 : Int)).toNat = 1 from rfl] at hx170_0)
                    replace hx170_0 := (HB.out.cell (World.block_lt_of_cell? w _ hx170_0)).trans hx170_0
                    replace p170 := eq_true p170
                    replace q170 := eq_true q170
                    go_wp2
                    go_ret2
                    exact ⟨_, by first | rfl | (simp [errW_none, errW_some] <;> rfl) | (simp [*, errW_none, errW_some] <;> rfl), by (with_reducible repeat (first | apply Kd.S_alloc | apply Kd.S_drewN | apply Kd.S_drew)); exact HO_4.out, by repeat (first | (with_reducible first | exact HB.out | apply below_alloc | apply pw_below_drewN | apply below_drew1) | exact HB.out)⟩
              · rw [if_neg c7] at H
                exact absurd H (by simp)

end Go.Proofs.Ytojnimaiggobeaa.H
