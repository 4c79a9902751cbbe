-- made by this session's gen.py over the kit's print.py; not trusted: Lean checks it
import Derived.Test.YtkbbgkhanmmhpaaH0
import Derived.Test.YtkbbgkhanmmhpaaH9
namespace Go.Proofs.Ytkbbgkhanmmhpaa.H
open Go.RowKit Go.Proofs.YtkbbgkhanmmhpaaW.PrintWords Go.Proofs.YtkbbgkhanmmhpaaW.PrintLast Go.Proofs.YtkbbgkhanmmhpaaW.PrintMore
attribute [local go_sem] max2_int min2_int max_two min_two max_three min_three max_four min_four   -- for this text's walks alone
set_option linter.unusedVariables false
set_option linter.unusedSimpArgs false

/-! ### haymowref03_Check: function 12 -/
mutual
def haymowref03_Check.j0 : Nat → List (S50) → Bool → Option (Int × Int × Int)
  | 0, _, _ => none
  | k + 1, x0, x16 => if x16 = true then (some (0, 0, 3)) else (haymowref03_Check.l0 k x0 0)
def haymowref03_Check.l0 : Nat → List (S50) → Int → Option (Int × Int × Int)
  | 0, _, _ => none
  | k + 1, x0, x5 => if x5 < (x0.length : Int) then (if 0 ≤ x5 then (if ((rd_T50 x0 x5).f0) < 0 then (haymowref03_Check.j2 k x0 x5 true) else (haymowref03_Check.j2 k x0 x5 (decide (((rd_T50 x0 x5).f0) > 4)))) else (none)) else (some (0, 0, 0))
def haymowref03_Check.j2 : Nat → List (S50) → Int → Bool → Option (Int × Int × Int)
  | 0, _, _, _ => none
  | k + 1, x0, x5, x36 => if x36 = true then (some (x5, 0, 6)) else (if 0 ≤ x5 then (if x5 < (x0.length : Int) then (if (((rd_T50 x0 x5).f1).length : Int) < 1 then (haymowref03_Check.j3 k x0 x5 true) else (haymowref03_Check.j3 k x0 x5 (decide ((((rd_T50 x0 x5).f1).length : Int) > 64)))) else (none)) else (none))
def haymowref03_Check.j3 : Nat → List (S50) → Int → Bool → Option (Int × Int × Int)
  | 0, _, _, _ => none
  | k + 1, x0, x5, x53 => if x53 = true then (some (x5, 0, 3)) else (haymowref03_Check.l1 k x0 x5 0)
def haymowref03_Check.l1 : Nat → List (S50) → Int → Int → Option (Int × Int × Int)
  | 0, _, _, _ => none
  | k + 1, x0, x5, x6 => if 0 ≤ x5 then (if x5 < (x0.length : Int) then (if x6 < (((rd_T50 x0 x5).f1).length : Int) then (if 0 ≤ x6 then ((haymowref03_instr.f k x0 x5 ((rd_T58 ((rd_T50 x0 x5).f1) x6).f0) ((rd_T58 ((rd_T50 x0 x5).f1) x6).f1) ((rd_T58 ((rd_T50 x0 x5).f1) x6).f2) ((rd_T58 ((rd_T50 x0 x5).f1) x6).f3) ((rd_T58 ((rd_T50 x0 x5).f1) x6).f4)).bind fun t156 => (if t156 = 0 then (haymowref03_Check.l1 k x0 x5 (wrap64 (x6 + 1))) else (some (x5, x6, t156)))) else (none)) else (if 0 ≤ (wrap64 ((((rd_T50 x0 x5).f1).length : Int) - 1)) then (if (wrap64 ((((rd_T50 x0 x5).f1).length : Int) - 1)) < (((rd_T50 x0 x5).f1).length : Int) then (if ((rd_T58 ((rd_T50 x0 x5).f1) (wrap64 ((((rd_T50 x0 x5).f1).length : Int) - 1))).f0) = 9 then (haymowref03_Check.l0 k x0 (wrap64 (x5 + 1))) else (if ((rd_T58 ((rd_T50 x0 x5).f1) (wrap64 ((((rd_T50 x0 x5).f1).length : Int) - 1))).f0) = 16 then (haymowref03_Check.l0 k x0 (wrap64 (x5 + 1))) else (if ((rd_T58 ((rd_T50 x0 x5).f1) (wrap64 ((((rd_T50 x0 x5).f1).length : Int) - 1))).f0) = 17 then (haymowref03_Check.l0 k x0 (wrap64 (x5 + 1))) else (some (x5, wrap64 ((((rd_T50 x0 x5).f1).length : Int) - 1), 11))))) else (none)) else (none))) else (none)) else (none)
end
def haymowref03_Check.f (k : Nat) (l0 : List (S50)) : Option (Int × Int × Int) := if (l0.length : Int) < 1 then (haymowref03_Check.j0 k l0 true) else (haymowref03_Check.j0 k l0 (decide ((l0.length : Int) > 16)))
theorem haymowref03_Check.mono_l : ∀ k, (∀ y0 y1, LeO (haymowref03_Check.j0 k y0 y1) (haymowref03_Check.j0 (k + 1) y0 y1)) ∧ (∀ y0 y1, LeO (haymowref03_Check.l0 k y0 y1) (haymowref03_Check.l0 (k + 1) y0 y1)) ∧ (∀ y0 y1 y2, LeO (haymowref03_Check.j2 k y0 y1 y2) (haymowref03_Check.j2 (k + 1) y0 y1 y2)) ∧ (∀ y0 y1 y2, LeO (haymowref03_Check.j3 k y0 y1 y2) (haymowref03_Check.j3 (k + 1) y0 y1 y2)) ∧ (∀ y0 y1 y2, LeO (haymowref03_Check.l1 k y0 y1 y2) (haymowref03_Check.l1 (k + 1) y0 y1 y2))
  | 0 => ⟨fun _ _ r h => by simp [haymowref03_Check.j0] at h, fun _ _ r h => by simp [haymowref03_Check.l0] at h, fun _ _ _ r h => by simp [haymowref03_Check.j2] at h, fun _ _ _ r h => by simp [haymowref03_Check.j3] at h, fun _ _ _ r h => by simp [haymowref03_Check.l1] at h⟩
  | k + 1 => by
    obtain ⟨ih0, ih1, ih2, ih3, ih4⟩ := haymowref03_Check.mono_l k
    refine ⟨?_, ?_, ?_, ?_, ?_⟩
    · intro y0 y1
      unfold haymowref03_Check.j0
      repeat' first
      | (with_reducible exact ih0 _ _)
      | (with_reducible exact ih1 _ _)
      | (with_reducible exact ih2 _ _ _)
      | (with_reducible exact ih3 _ _ _)
      | (with_reducible exact ih4 _ _ _)
      | (with_reducible exact haymowref03_instr.mono _ _ _ _ _ _ _ _)
      | (with_reducible exact LeO.refl _)
      | (with_reducible exact LeO.none _)
      | (with_reducible refine LeO.ite ?_ ?_)
      | (with_reducible refine LeO.bind ?_ (fun _ => ?_))
      | exact ih0 _ _
      | exact ih1 _ _
      | exact ih2 _ _ _
      | exact ih3 _ _ _
      | exact ih4 _ _ _
      | exact haymowref03_instr.mono _ _ _ _ _ _ _ _
      | exact LeO.none _
      | refine LeO.ite ?_ ?_
      | refine LeO.bind ?_ (fun _ => ?_)
    · intro y0 y1
      unfold haymowref03_Check.l0
      repeat' first
      | (with_reducible exact ih0 _ _)
      | (with_reducible exact ih1 _ _)
      | (with_reducible exact ih2 _ _ _)
      | (with_reducible exact ih3 _ _ _)
      | (with_reducible exact ih4 _ _ _)
      | (with_reducible exact haymowref03_instr.mono _ _ _ _ _ _ _ _)
      | (with_reducible exact LeO.refl _)
      | (with_reducible exact LeO.none _)
      | (with_reducible refine LeO.ite ?_ ?_)
      | (with_reducible refine LeO.bind ?_ (fun _ => ?_))
      | exact ih0 _ _
      | exact ih1 _ _
      | exact ih2 _ _ _
      | exact ih3 _ _ _
      | exact ih4 _ _ _
      | exact haymowref03_instr.mono _ _ _ _ _ _ _ _
      | exact LeO.none _
      | refine LeO.ite ?_ ?_
      | refine LeO.bind ?_ (fun _ => ?_)
    · intro y0 y1 y2
      unfold haymowref03_Check.j2
      repeat' first
      | (with_reducible exact ih0 _ _)
      | (with_reducible exact ih1 _ _)
      | (with_reducible exact ih2 _ _ _)
      | (with_reducible exact ih3 _ _ _)
      | (with_reducible exact ih4 _ _ _)
      | (with_reducible exact haymowref03_instr.mono _ _ _ _ _ _ _ _)
      | (with_reducible exact LeO.refl _)
      | (with_reducible exact LeO.none _)
      | (with_reducible refine LeO.ite ?_ ?_)
      | (with_reducible refine LeO.bind ?_ (fun _ => ?_))
      | exact ih0 _ _
      | exact ih1 _ _
      | exact ih2 _ _ _
      | exact ih3 _ _ _
      | exact ih4 _ _ _
      | exact haymowref03_instr.mono _ _ _ _ _ _ _ _
      | exact LeO.none _
      | refine LeO.ite ?_ ?_
      | refine LeO.bind ?_ (fun _ => ?_)
    · intro y0 y1 y2
      unfold haymowref03_Check.j3
      repeat' first
      | (with_reducible exact ih0 _ _)
      | (with_reducible exact ih1 _ _)
      | (with_reducible exact ih2 _ _ _)
      | (with_reducible exact ih3 _ _ _)
      | (with_reducible exact ih4 _ _ _)
      | (with_reducible exact haymowref03_instr.mono _ _ _ _ _ _ _ _)
      | (with_reducible exact LeO.refl _)
      | (with_reducible exact LeO.none _)
      | (with_reducible refine LeO.ite ?_ ?_)
      | (with_reducible refine LeO.bind ?_ (fun _ => ?_))
      | exact ih0 _ _
      | exact ih1 _ _
      | exact ih2 _ _ _
      | exact ih3 _ _ _
      | exact ih4 _ _ _
      | exact haymowref03_instr.mono _ _ _ _ _ _ _ _
      | exact LeO.none _
      | refine LeO.ite ?_ ?_
      | refine LeO.bind ?_ (fun _ => ?_)
    · intro y0 y1 y2
      unfold haymowref03_Check.l1
      repeat' first
      | (with_reducible exact ih0 _ _)
      | (with_reducible exact ih1 _ _)
      | (with_reducible exact ih2 _ _ _)
      | (with_reducible exact ih3 _ _ _)
      | (with_reducible exact ih4 _ _ _)
      | (with_reducible exact haymowref03_instr.mono _ _ _ _ _ _ _ _)
      | (with_reducible exact LeO.refl _)
      | (with_reducible exact LeO.none _)
      | (with_reducible refine LeO.ite ?_ ?_)
      | (with_reducible refine LeO.bind ?_ (fun _ => ?_))
      | exact ih0 _ _
      | exact ih1 _ _
      | exact ih2 _ _ _
      | exact ih3 _ _ _
      | exact ih4 _ _ _
      | exact haymowref03_instr.mono _ _ _ _ _ _ _ _
      | exact LeO.none _
      | refine LeO.ite ?_ ?_
      | refine LeO.bind ?_ (fun _ => ?_)
theorem haymowref03_Check.mono : ∀ a0 k, LeO (haymowref03_Check.f k a0) (haymowref03_Check.f (k + 1) a0) := by
  intro a0 k
  obtain ⟨ih0, ih1, ih2, ih3, ih4⟩ := haymowref03_Check.mono_l k
  unfold haymowref03_Check.f
  repeat' first
      | (with_reducible exact ih0 _ _)
      | (with_reducible exact ih1 _ _)
      | (with_reducible exact ih2 _ _ _)
      | (with_reducible exact ih3 _ _ _)
      | (with_reducible exact ih4 _ _ _)
      | (with_reducible exact haymowref03_instr.mono _ _ _ _ _ _ _ _)
      | (with_reducible exact LeO.refl _)
      | (with_reducible exact LeO.none _)
      | (with_reducible refine LeO.ite ?_ ?_)
      | (with_reducible refine LeO.bind ?_ (fun _ => ?_))
      | exact ih0 _ _
      | exact ih1 _ _
      | exact ih2 _ _ _
      | exact ih3 _ _ _
      | exact ih4 _ _ _
      | exact haymowref03_instr.mono _ _ _ _ _ _ _ _
      | exact LeO.none _
      | refine LeO.ite ?_ ?_
      | refine LeO.bind ?_ (fun _ => ?_)
set_option maxHeartbeats 8000000 in
set_option maxRecDepth 100000 in
theorem haymowref03_Check.calls (k : Nat) (A0 : Option Addr) (c0 : Nat) (l0 : List (S50)) (r1 : Int) (r2 : Int) (r3 : Int) (w : World) (hr0 : Kd.C k50 w A0 l0.length l0) (hc0 : l0.length ≤ c0) (h : haymowref03_Check.f k l0 = some (r1, r2, r3)) :
    Calls Try.prog 12 #[.slice A0 l0.length c0] w fun e w' => e = .returned (.tuple #[.int .i64 r1, .int .i64 r2, .int .i64 r3]) ∧ Below w.heap.size w w' := by
  have hu58 := Try.underlying58
  have HR0 := Aside0.mk hr0
  have HC0 := Aside0.mk hc0
  clear hr0 hc0
  have HB := Aside0.mk (Below.refl w.heap.size w)
  have H : (if (l0.length : Int) < 1 then (haymowref03_Check.j0 k l0 true) else (haymowref03_Check.j0 k l0 (decide ((l0.length : Int) > 16)))) = some (r1, r2, r3) := h
  clear h
  have HC2 := Aside0.mk H
  clear H
  go_enter Try.func12, Try.ntmps12
  go_upto_region 1 with (fail)
  repeat (go_quiet (fail); go_upto_region 1 with (fail))
  go_cut [16] (fun v16 wc => ∃ (kq : Nat) (x16_1 : Bool), v16 = .bool x16_1 ∧ Aside0 (haymowref03_Check.j0 kq l0 x16_1 = some (r1, r2, r3)) ∧ Aside0 (kq ≤ k) ∧ Aside0 (Below w.heap.size w wc))
  case first =>
    have H := HC2.out
    clear HC2
    by_cases c3 : (l0.length : Int) < 1
    · rw [if_pos c3] at H
      have c3b0 : decide ((l0.length : Int) < 1) = true := decide_eq_true c3
      have c3b1 : decide (l0.length < 1) = true := decide_eq_true (by omega)
      clear c3
      (first | rw [c3b0] | (simp only [i64_w, i32_w]; rw [c3b0]) | skip)
      have H' := Aside0.mk H
      clear H
      go_wp2
      repeat (go_quiet (fail); try go_wp2)
      go_meet
      case rel => exact ⟨_, (true), (by first | rfl | (simp; done) | (simp [*]; done)), H', ⟨by first | omega | exact Nat.le_refl _⟩, ⟨by repeat (first | (with_reducible first | exact HB.out | apply below_alloc | apply pw_below_drewN | apply below_drew1) | exact HB.out)⟩⟩
    · rw [if_neg c3] at H
      have c3b0 : decide ((l0.length : Int) < 1) = false := decide_eq_false c3
      have c3b1 : decide (l0.length < 1) = false := decide_eq_false (by omega)
      clear c3
      (first | rw [c3b0] | (simp only [i64_w, i32_w]; rw [c3b0]) | skip)
      have H' := Aside0.mk H
      clear H
      go_wp2
      repeat (go_quiet (fail); try go_wp2)
      go_meet
      case rel => exact ⟨_, (decide ((l0.length : Int) > 16)), (by first | rfl | (simp; done) | (simp [*]; done)), H', ⟨by first | omega | exact Nat.le_refl _⟩, ⟨by repeat (first | (with_reducible first | exact HB.out | apply below_alloc | apply pw_below_drewN | apply below_drew1) | exact HB.out)⟩⟩
  case rest =>
    clear HC2
    try clear c1
    try clear p2
    try clear c3
    try clear c3b0
    try clear c3b1
    obtain ⟨kq, x16_1, rfl, HA, HJ1, HB⟩ := hcut
    cases kq with
    | zero => exact absurd HA.out (by simp [haymowref03_Check.j0])
    | succ kj1 =>
      have H := HA.out
      clear HA
      simp only [haymowref03_Check.j0] at H
      by_cases c4 : x16_1 = true
      · subst c4
        have H1 : (some (0, 0, 3)) = some (r1, r2, r3) := by rw [if_pos rfl] at H; exact H
        clear H
        have H := H1
        clear H1
        simp only [Option.some.injEq, Prod.mk.injEq] at H
        obtain ⟨rfl, rfl, rfl⟩ := H
        go_wp2
        repeat (go_quiet (fail); try go_wp2)
        go_ret3
        exact ⟨by first | rfl | (simp [errW_none, errW_some] <;> rfl) | (simp [*, errW_none, errW_some] <;> rfl), by repeat (first | (with_reducible first | exact HB.out | apply below_alloc | apply pw_below_drewN | apply below_drew1) | exact HB.out)⟩
      · replace c4 := Bool.eq_false_iff.mpr c4
        subst c4
        have H1 : (haymowref03_Check.l0 kj1 l0 0) = some (r1, r2, r3) := by rw [if_neg (show ¬ (false = true) by decide)] at H; exact H
        clear H
        have H := H1
        clear H1
        have H' := Aside0.mk H
        clear H
        go_wp2
        repeat (go_quiet (fail); try go_wp2)
        go_loopg [5] kj1 (fun kq v5 w' => ∃ (x5_2 : Int), v5 = .int .i64 x5_2 ∧ Aside0 (haymowref03_Check.l0 kq l0 x5_2 = some (r1, r2, r3)) ∧ Aside0 (kq ≤ kj1) ∧ Aside0 (Below w.heap.size w w'))
        case atStart => exact ⟨(0), (by first | rfl | (simp; done) | (simp [*]; done)), H', ⟨Nat.le_refl _⟩, ⟨by repeat (first | (with_reducible first | exact HB.out | apply below_alloc | apply pw_below_drewN | apply below_drew1) | exact HB.out)⟩⟩
        case round =>
          clear H'
          try clear c1
          try clear p2
          try clear c3
          try clear c3b0
          try clear c3b1
          try clear c4
          try clear p2
          obtain ⟨x5_2, rfl, HA, HK2, HB⟩ := hrel
          cases gk with
          | zero => exact absurd HA.out (by simp [haymowref03_Check.l0])
          | succ k2 =>
            have H := HA.out
            clear HA
            simp only [haymowref03_Check.l0] at H
            by_cases c5 : x5_2 < (l0.length : Int)
            · rw [if_pos c5] at H
              have c5b0 : decide (x5_2 < (l0.length : Int)) = true := decide_eq_true c5
              clear c5
              have HC6 := Aside0.mk H
              clear H
              go_upto_region 6 with (fail)
              repeat (go_quiet (fail); go_upto_region 6 with (fail))
              go_cut [36] (fun v36 wc => ∃ (kq : Nat) (x36_5 : Bool), v36 = .bool x36_5 ∧ Aside0 (haymowref03_Check.j2 kq l0 x5_2 x36_5 = some (r1, r2, r3)) ∧ Aside0 (kq ≤ k2) ∧ Aside0 (Below w.heap.size w wc))
              case first =>
                have H := HC6.out
                clear HC6
                by_cases c7 : 0 ≤ x5_2
                · rw [if_pos c7] at H
                  have c7b0 : decide (0 ≤ x5_2) = true := decide_eq_true c7
                  clear c7
                  (first | rw [c7b0] | (simp only [i64_w, i32_w]; rw [c7b0]) | skip)
                  by_cases c8 : ((rd_T50 l0 x5_2).f0) < 0
                  · rw [if_pos c8] at H
                    have c8b0 : decide (((rd_T50 l0 x5_2).f0) < 0) = true := decide_eq_true c8
                    clear c8
                    have H' := Aside0.mk H
                    clear H
                    have p149 : 0 ≤ (x5_2 : Int) := of_decide_eq_true (by first | (with_reducible assumption) | assumption)
                    have q149 : x5_2 < (l0.length : Int) := of_decide_eq_true (by first | (with_reducible assumption) | assumption)
                    obtain ⟨ad149, A149_1, c149_1, e149, hx149_0, hx149_1, hl149_1, hi149_1⟩ := at_T50 HR0.out x5_2 p149 q149
                    cases e149
                    replace hx149_0 := (HB.out.cell (World.block_lt_of_cell? w _ hx149_0)).trans hx149_0
                    replace hx149_1 := (HB.out.cell (World.block_lt_of_cell? w _ hx149_1)).trans hx149_1
                    have HR149_1 := Aside0.mk hi149_1
                    have HC149_1 := Aside0.mk hl149_1
                    clear hi149_1 hl149_1
                    replace p149 := eq_true p149
                    replace q149 := eq_true q149
                    go_wp2
                    repeat (go_quiet (fail); try go_wp2)
                    go_meet
                    case rel => exact ⟨_, (true), (by first | rfl | (simp; done) | (simp [*]; done)), H', ⟨by have := HJ1.out; have := HK2.out; first | omega | exact Nat.le_refl _⟩, ⟨by repeat (first | (with_reducible first | exact HB.out | apply below_alloc | apply pw_below_drewN | apply below_drew1) | exact HB.out)⟩⟩
                  · rw [if_neg c8] at H
                    have c8b0 : decide (((rd_T50 l0 x5_2).f0) < 0) = false := decide_eq_false c8
                    clear c8
                    have H' := Aside0.mk H
                    clear H
                    have p149 : 0 ≤ (x5_2 : Int) := of_decide_eq_true (by first | (with_reducible assumption) | assumption)
                    have q149 : x5_2 < (l0.length : Int) := of_decide_eq_true (by first | (with_reducible assumption) | assumption)
                    obtain ⟨ad149, A149_1, c149_1, e149, hx149_0, hx149_1, hl149_1, hi149_1⟩ := at_T50 HR0.out x5_2 p149 q149
                    cases e149
                    replace hx149_0 := (HB.out.cell (World.block_lt_of_cell? w _ hx149_0)).trans hx149_0
                    replace hx149_1 := (HB.out.cell (World.block_lt_of_cell? w _ hx149_1)).trans hx149_1
                    have HR149_1 := Aside0.mk hi149_1
                    have HC149_1 := Aside0.mk hl149_1
                    clear hi149_1 hl149_1
                    replace p149 := eq_true p149
                    replace q149 := eq_true q149
                    have p150 : 0 ≤ (x5_2 : Int) := of_decide_eq_true (by first | (with_reducible assumption) | assumption)
                    have q150 : x5_2 < (l0.length : Int) := of_decide_eq_true (by first | (with_reducible assumption) | assumption)
                    obtain ⟨ad150, A150_1, c150_1, e150, hx150_0, hx150_1, hl150_1, hi150_1⟩ := at_T50 HR0.out x5_2 p150 q150
                    obtain rfl : ad149 = ad150 := (by injection e150)
                    replace hx150_0 := (HB.out.cell (World.block_lt_of_cell? w _ hx150_0)).trans hx150_0
                    replace hx150_1 := (HB.out.cell (World.block_lt_of_cell? w _ hx150_1)).trans hx150_1
                    have HR150_1 := Aside0.mk hi150_1
                    have HC150_1 := Aside0.mk hl150_1
                    clear hi150_1 hl150_1
                    replace p150 := eq_true p150
                    replace q150 := eq_true q150
                    have ea_ := Option.some.inj (hx149_1.symm.trans hx150_1)
                    injection ea_ with ea_ en_ ec_
                    subst ea_
                    subst ec_
                    clear en_
                    go_wp2
                    repeat (go_quiet (fail); try go_wp2)
                    go_meet
                    case rel => exact ⟨_, (decide (((rd_T50 l0 x5_2).f0) > 4)), (by first | rfl | (simp; done) | (simp [*]; done)), H', ⟨by have := HJ1.out; have := HK2.out; first | omega | exact Nat.le_refl _⟩, ⟨by repeat (first | (with_reducible first | exact HB.out | apply below_alloc | apply pw_below_drewN | apply below_drew1) | exact HB.out)⟩⟩
                · rw [if_neg c7] at H
                  exact absurd H (by simp)
              case rest =>
                clear HC6
                try clear c1
                try clear p1
                try clear q1
                try clear hx1
                try clear p2
                try clear c3
                try clear c3b0
                try clear c3b1
                try clear c4
                try clear c5
                try clear c5b0
                try clear c7
                try clear c7b0
                try clear c8
                try clear c8b0
                try clear hx149_0
                try clear hx149_1
                try clear hx150_0
                try clear hx150_1
                try clear p149
                try clear p150
                try clear p2
                try clear q149
                try clear q150
                obtain ⟨kq, x36_5, rfl, HA, HJ5, HB⟩ := hcut
                cases kq with
                | zero => exact absurd HA.out (by simp [haymowref03_Check.j2])
                | succ kj5 =>
                  have H := HA.out
                  clear HA
                  simp only [haymowref03_Check.j2] at H
                  by_cases c9 : x36_5 = true
                  · subst c9
                    have H1 : (some (x5_2, 0, 6)) = some (r1, r2, r3) := by rw [if_pos rfl] at H; exact H
                    clear H
                    have H := H1
                    clear H1
                    simp only [Option.some.injEq, Prod.mk.injEq] at H
                    obtain ⟨rfl, rfl, rfl⟩ := H
                    go_wp2
                    repeat (go_quiet (fail); try go_wp2)
                    go_ret3
                    exact ⟨by first | rfl | (simp [errW_none, errW_some] <;> rfl) | (simp [*, errW_none, errW_some] <;> rfl), by repeat (first | (with_reducible first | exact HB.out | apply below_alloc | apply pw_below_drewN | apply below_drew1) | exact HB.out)⟩
                  · replace c9 := Bool.eq_false_iff.mpr c9
                    subst c9
                    have H1 : (if 0 ≤ x5_2 then (if x5_2 < (l0.length : Int) then (if (((rd_T50 l0 x5_2).f1).length : Int) < 1 then (haymowref03_Check.j3 kj5 l0 x5_2 true) else (haymowref03_Check.j3 kj5 l0 x5_2 (decide ((((rd_T50 l0 x5_2).f1).length : Int) > 64)))) else (none)) else (none)) = some (r1, r2, r3) := by rw [if_neg (show ¬ (false = true) by decide)] at H; exact H
                    clear H
                    have H := H1
                    clear H1
                    have HC10 := Aside0.mk H
                    clear H
                    go_upto_region 8 with (fail)
                    repeat (go_quiet (fail); go_upto_region 8 with (fail))
                    go_cut [53] (fun v53 wc => ∃ (kq : Nat) (x53_9 : Bool), v53 = .bool x53_9 ∧ Aside0 (haymowref03_Check.j3 kq l0 x5_2 x53_9 = some (r1, r2, r3)) ∧ Aside0 (kq ≤ kj5) ∧ Aside0 (Below w.heap.size w wc))
                    case first =>
                      have H := HC10.out
                      clear HC10
                      by_cases c11 : 0 ≤ x5_2
                      · rw [if_pos c11] at H
                        have c11b0 : decide (0 ≤ x5_2) = true := decide_eq_true c11
                        clear c11
                        (first | rw [c11b0] | (simp only [i64_w, i32_w]; rw [c11b0]) | skip)
                        by_cases c12 : x5_2 < (l0.length : Int)
                        · rw [if_pos c12] at H
                          have c12b0 : decide (x5_2 < (l0.length : Int)) = true := decide_eq_true c12
                          clear c12
                          by_cases c13 : (((rd_T50 l0 x5_2).f1).length : Int) < 1
                          · rw [if_pos c13] at H
                            have c13b0 : decide ((((rd_T50 l0 x5_2).f1).length : Int) < 1) = true := decide_eq_true c13
                            have c13b1 : decide (((rd_T50 l0 x5_2).f1).length < 1) = true := decide_eq_true (by omega)
                            clear c13
                            have H' := Aside0.mk H
                            clear H
                            have p151 : 0 ≤ (x5_2 : Int) := of_decide_eq_true (by first | (with_reducible assumption) | assumption)
                            have q151 : x5_2 < (l0.length : Int) := of_decide_eq_true (by first | (with_reducible assumption) | assumption)
                            obtain ⟨ad151, A151_1, c151_1, e151, hx151_0, hx151_1, hl151_1, hi151_1⟩ := at_T50 HR0.out x5_2 p151 q151
                            cases e151
                            replace hx151_0 := (HB.out.cell (World.block_lt_of_cell? w _ hx151_0)).trans hx151_0
                            replace hx151_1 := (HB.out.cell (World.block_lt_of_cell? w _ hx151_1)).trans hx151_1
                            have HR151_1 := Aside0.mk hi151_1
                            have HC151_1 := Aside0.mk hl151_1
                            clear hi151_1 hl151_1
                            replace p151 := eq_true p151
                            replace q151 := eq_true q151
                            go_wp2
                            repeat (go_quiet (fail); try go_wp2)
                            go_meet
                            case rel => exact ⟨_, (true), (by first | rfl | (simp; done) | (simp [*]; done)), H', ⟨by have := HJ1.out; have := HK2.out; have := HJ5.out; first | omega | exact Nat.le_refl _⟩, ⟨by repeat (first | (with_reducible first | exact HB.out | apply below_alloc | apply pw_below_drewN | apply below_drew1) | exact HB.out)⟩⟩
                          · rw [if_neg c13] at H
                            have c13b0 : decide ((((rd_T50 l0 x5_2).f1).length : Int) < 1) = false := decide_eq_false c13
                            have c13b1 : decide (((rd_T50 l0 x5_2).f1).length < 1) = false := decide_eq_false (by omega)
                            clear c13
                            have H' := Aside0.mk H
                            clear H
                            have p151 : 0 ≤ (x5_2 : Int) := of_decide_eq_true (by first | (with_reducible assumption) | assumption)
                            have q151 : x5_2 < (l0.length : Int) := of_decide_eq_true (by first | (with_reducible assumption) | assumption)
                            obtain ⟨ad151, A151_1, c151_1, e151, hx151_0, hx151_1, hl151_1, hi151_1⟩ := at_T50 HR0.out x5_2 p151 q151
                            cases e151
                            replace hx151_0 := (HB.out.cell (World.block_lt_of_cell? w _ hx151_0)).trans hx151_0
                            replace hx151_1 := (HB.out.cell (World.block_lt_of_cell? w _ hx151_1)).trans hx151_1
                            have HR151_1 := Aside0.mk hi151_1
                            have HC151_1 := Aside0.mk hl151_1
                            clear hi151_1 hl151_1
                            replace p151 := eq_true p151
                            replace q151 := eq_true q151
                            have p152 : 0 ≤ (x5_2 : Int) := of_decide_eq_true (by first | (with_reducible assumption) | assumption)
                            have q152 : x5_2 < (l0.length : Int) := of_decide_eq_true (by first | (with_reducible assumption) | assumption)
                            obtain ⟨ad152, A152_1, c152_1, e152, hx152_0, hx152_1, hl152_1, hi152_1⟩ := at_T50 HR0.out x5_2 p152 q152
                            obtain rfl : ad151 = ad152 := (by injection e152)
                            replace hx152_0 := (HB.out.cell (World.block_lt_of_cell? w _ hx152_0)).trans hx152_0
                            replace hx152_1 := (HB.out.cell (World.block_lt_of_cell? w _ hx152_1)).trans hx152_1
                            have HR152_1 := Aside0.mk hi152_1
                            have HC152_1 := Aside0.mk hl152_1
                            clear hi152_1 hl152_1
                            replace p152 := eq_true p152
                            replace q152 := eq_true q152
                            have ea_ := Option.some.inj (hx151_1.symm.trans hx152_1)
                            injection ea_ with ea_ en_ ec_
                            subst ea_
                            subst ec_
                            clear en_
                            go_wp2
                            repeat (go_quiet (fail); try go_wp2)
                            go_meet
                            case rel => exact ⟨_, (decide ((((rd_T50 l0 x5_2).f1).length : Int) > 64)), (by first | rfl | (simp; done) | (simp [*]; done)), H', ⟨by have := HJ1.out; have := HK2.out; have := HJ5.out; first | omega | exact Nat.le_refl _⟩, ⟨by repeat (first | (with_reducible first | exact HB.out | apply below_alloc | apply pw_below_drewN | apply below_drew1) | exact HB.out)⟩⟩
                        · rw [if_neg c12] at H
                          exact absurd H (by simp)
                      · rw [if_neg c11] at H
                        exact absurd H (by simp)
                    case rest =>
                      clear HC10
                      try clear c1
                      try clear p1
                      try clear q1
                      try clear hx1
                      try clear p2
                      try clear c3
                      try clear c3b0
                      try clear c3b1
                      try clear c4
                      try clear c5
                      try clear c5b0
                      try clear c7
                      try clear c7b0
                      try clear c8
                      try clear c8b0
                      try clear c9
                      try clear c11
                      try clear c11b0
                      try clear c12
                      try clear c12b0
                      try clear c13
                      try clear c13b0
                      try clear c13b1
                      try clear hx149_0
                      try clear hx149_1
                      try clear hx150_0
                      try clear hx150_1
                      try clear hx151_0
                      try clear hx151_1
                      try clear hx152_0
                      try clear hx152_1
                      try clear p1
                      try clear p149
                      try clear p150
                      try clear p151
                      try clear p152
                      try clear p2
                      try clear q1
                      try clear q149
                      try clear q150
                      try clear q151
                      try clear q152
                      obtain ⟨kq, x53_9, rfl, HA, HJ9, HB⟩ := hcut
                      cases kq with
                      | zero => exact absurd HA.out (by simp [haymowref03_Check.j3])
                      | succ kj9 =>
                        have H := HA.out
                        clear HA
                        simp only [haymowref03_Check.j3] at H
                        by_cases c14 : x53_9 = true
                        · subst c14
                          have H1 : (some (x5_2, 0, 3)) = some (r1, r2, r3) := by rw [if_pos rfl] at H; exact H
                          clear H
                          have H := H1
                          clear H1
                          simp only [Option.some.injEq, Prod.mk.injEq] at H
                          obtain ⟨rfl, rfl, rfl⟩ := H
                          go_wp2
                          repeat (go_quiet (fail); try go_wp2)
                          go_ret3
                          exact ⟨by first | rfl | (simp [errW_none, errW_some] <;> rfl) | (simp [*, errW_none, errW_some] <;> rfl), by repeat (first | (with_reducible first | exact HB.out | apply below_alloc | apply pw_below_drewN | apply below_drew1) | exact HB.out)⟩
                        · replace c14 := Bool.eq_false_iff.mpr c14
                          subst c14
                          have H1 : (haymowref03_Check.l1 kj9 l0 x5_2 0) = some (r1, r2, r3) := by rw [if_neg (show ¬ (false = true) by decide)] at H; exact H
                          clear H
                          have H := H1
                          clear H1
                          have H' := Aside0.mk H
                          clear H
                          go_wp2
                          repeat (go_quiet (fail); try go_wp2)
                          go_loopg [6] kj9 (fun kq v6 w' => ∃ (x6_5 : Int), v6 = .int .i64 x6_5 ∧ Aside0 (haymowref03_Check.l1 kq l0 x5_2 x6_5 = some (r1, r2, r3)) ∧ Aside0 (kq ≤ kj9) ∧ Aside0 (Below w.heap.size w w'))
                          case atStart => exact ⟨(0), (by first | rfl | (simp; done) | (simp [*]; done)), H', ⟨Nat.le_refl _⟩, ⟨by repeat (first | (with_reducible first | exact HB.out | apply below_alloc | apply pw_below_drewN | apply below_drew1) | exact HB.out)⟩⟩
                          case round =>
                            clear H'
                            try clear c1
                            try clear p1
                            try clear q1
                            try clear hx1
                            try clear p2
                            try clear c3
                            try clear c3b0
                            try clear c3b1
                            try clear c4
                            try clear c5
                            try clear c5b0
                            try clear c7
                            try clear c7b0
                            try clear c8
                            try clear c8b0
                            try clear c9
                            try clear c11
                            try clear c11b0
                            try clear c12
                            try clear c12b0
                            try clear c13
                            try clear c13b0
                            try clear c13b1
                            try clear c14
                            try clear p14
                            try clear q14
                            try clear hx14
                            try clear hx149_0
                            try clear hx149_1
                            try clear hx150_0
                            try clear hx150_1
                            try clear hx151_0
                            try clear hx151_1
                            try clear hx152_0
                            try clear hx152_1
                            try clear p1
                            try clear p149
                            try clear p150
                            try clear p151
                            try clear p152
                            try clear p2
                            try clear q1
                            try clear q149
                            try clear q150
                            try clear q151
                            try clear q152
                            obtain ⟨x6_5, rfl, HA, HK5, HB⟩ := hrel
                            cases gk with
                            | zero => exact absurd HA.out (by simp [haymowref03_Check.l1])
                            | succ k5 =>
                              have H := HA.out
                              clear HA
                              simp only [haymowref03_Check.l1] at H
                              by_cases c15 : 0 ≤ x5_2
                              · rw [if_pos c15] at H
                                have c15b0 : decide (0 ≤ x5_2) = true := decide_eq_true c15
                                clear c15
                                by_cases c16 : x5_2 < (l0.length : Int)
                                · rw [if_pos c16] at H
                                  have c16b0 : decide (x5_2 < (l0.length : Int)) = true := decide_eq_true c16
                                  clear c16
                                  by_cases c17 : x6_5 < (((rd_T50 l0 x5_2).f1).length : Int)
                                  · rw [if_pos c17] at H
                                    have c17b0 : decide (x6_5 < (((rd_T50 l0 x5_2).f1).length : Int)) = true := decide_eq_true c17
                                    clear c17
                                    by_cases c18 : 0 ≤ x6_5
                                    · rw [if_pos c18] at H
                                      have c18b0 : decide (0 ≤ x6_5) = true := decide_eq_true c18
                                      clear c18
                                      replace H := Option.bind_eq_some_iff.mp H
                                      obtain ⟨t156, A190, H⟩ := H
                                      replace H : (if t156 = 0 then (haymowref03_Check.l1 k5 l0 x5_2 (wrap64 (x6_5 + 1))) else (some (x5_2, x6_5, t156))) = some (r1, r2, r3) := H
                                      have A19 := Aside0.mk A190
                                      clear A190
                                      by_cases c20 : t156 = 0
                                      · rw [if_pos c20] at H
                                        have c20b0 : (t156 == 0) = true := beq_iff_eq.mpr c20
                                        have c20b1 : (t156 != 0) = false := bne_eq_false_iff_eq.mpr c20
                                        clear c20
                                        have H' := Aside0.mk H
                                        clear H
                                        have p153 : 0 ≤ (x5_2 : Int) := of_decide_eq_true (by first | (with_reducible assumption) | assumption)
                                        have q153 : x5_2 < (l0.length : Int) := of_decide_eq_true (by first | (with_reducible assumption) | assumption)
                                        obtain ⟨ad153, A153_1, c153_1, e153, hx153_0, hx153_1, hl153_1, hi153_1⟩ := at_T50 HR0.out x5_2 p153 q153
                                        cases e153
                                        replace hx153_0 := (HB.out.cell (World.block_lt_of_cell? w _ hx153_0)).trans hx153_0
                                        replace hx153_1 := (HB.out.cell (World.block_lt_of_cell? w _ hx153_1)).trans hx153_1
                                        have HR153_1 := Aside0.mk hi153_1
                                        have HC153_1 := Aside0.mk hl153_1
                                        clear hi153_1 hl153_1
                                        replace p153 := eq_true p153
                                        replace q153 := eq_true q153
                                        have p154 : 0 ≤ (x5_2 : Int) := of_decide_eq_true (by first | (with_reducible assumption) | assumption)
                                        have q154 : x5_2 < (l0.length : Int) := of_decide_eq_true (by first | (with_reducible assumption) | assumption)
                                        obtain ⟨ad154, A154_1, c154_1, e154, hx154_0, hx154_1, hl154_1, hi154_1⟩ := at_T50 HR0.out x5_2 p154 q154
                                        obtain rfl : ad153 = ad154 := (by injection e154)
                                        replace hx154_0 := (HB.out.cell (World.block_lt_of_cell? w _ hx154_0)).trans hx154_0
                                        replace hx154_1 := (HB.out.cell (World.block_lt_of_cell? w _ hx154_1)).trans hx154_1
                                        have HR154_1 := Aside0.mk hi154_1
                                        have HC154_1 := Aside0.mk hl154_1
                                        clear hi154_1 hl154_1
                                        replace p154 := eq_true p154
                                        replace q154 := eq_true q154
                                        have ea_ := Option.some.inj (hx153_1.symm.trans hx154_1)
                                        injection ea_ with ea_ en_ ec_
                                        subst ea_
                                        subst ec_
                                        clear en_
                                        have p155 : 0 ≤ (x6_5 : Int) := of_decide_eq_true (by first | (with_reducible assumption) | assumption)
                                        have q155 : x6_5 < (((rd_T50 l0 x5_2).f1).length : Int) := of_decide_eq_true (by first | (with_reducible assumption) | assumption)
                                        obtain ⟨ad155, e155, hx155_0, hx155_1, hx155_2, hx155_3, hx155_4⟩ := at_T58 HR154_1.out x6_5 p155 q155
                                        cases e155
                                        replace hx155_0 := (HB.out.cell (World.block_lt_of_cell? w _ hx155_0)).trans hx155_0
                                        replace hx155_1 := (HB.out.cell (World.block_lt_of_cell? w _ hx155_1)).trans hx155_1
                                        replace hx155_2 := (HB.out.cell (World.block_lt_of_cell? w _ hx155_2)).trans hx155_2
                                        replace hx155_3 := (HB.out.cell (World.block_lt_of_cell? w _ hx155_3)).trans hx155_3
                                        replace hx155_4 := (HB.out.cell (World.block_lt_of_cell? w _ hx155_4)).trans hx155_4
                                        replace p155 := eq_true p155
                                        replace q155 := eq_true q155
                                        go_wp2_with (first | (go_at_call 19; (with_reducible refine (haymowref03_instr.calls k5 _ _ l0 x5_2 ((rd_T58 ((rd_T50 l0 x5_2).f1) x6_5).f0) ((rd_T58 ((rd_T50 l0 x5_2).f1) x6_5).f1) ((rd_T58 ((rd_T50 l0 x5_2).f1) x6_5).f2) ((rd_T58 ((rd_T50 l0 x5_2).f1) x6_5).f3) ((rd_T58 ((rd_T50 l0 x5_2).f1) x6_5).f4) t156 _ ?side1 ?side2 A19.out).mono ?_); (case side1 => repeat (first | exact (Kd.C_below HR0.out HB.out) | (with_reducible refine Kd.C_alloc ?_ _) | (with_reducible refine Kd.C_drewN ?_ _) | (with_reducible refine Kd.C_drew ?_))); (case side2 => exact HC0.out); rintro e w21 ⟨rfl, hb⟩; have n0_ := Aside0.mk (below_step (by repeat (first | (with_reducible first | exact HB.out | apply below_alloc | apply pw_below_drewN | apply below_drew1) | exact HB.out)) hb); clear HB; have HB := n0_; clear n0_; (try clear hb); (try clear hb2); (try clear hk); (try clear hi)))
                                        repeat (go_quiet (first | (go_at_call 19; (with_reducible refine (haymowref03_instr.calls k5 _ _ l0 x5_2 ((rd_T58 ((rd_T50 l0 x5_2).f1) x6_5).f0) ((rd_T58 ((rd_T50 l0 x5_2).f1) x6_5).f1) ((rd_T58 ((rd_T50 l0 x5_2).f1) x6_5).f2) ((rd_T58 ((rd_T50 l0 x5_2).f1) x6_5).f3) ((rd_T58 ((rd_T50 l0 x5_2).f1) x6_5).f4) t156 _ ?side1 ?side2 A19.out).mono ?_); (case side1 => repeat (first | exact (Kd.C_below HR0.out HB.out) | (with_reducible refine Kd.C_alloc ?_ _) | (with_reducible refine Kd.C_drewN ?_ _) | (with_reducible refine Kd.C_drew ?_))); (case side2 => exact HC0.out); rintro e w21 ⟨rfl, hb⟩; have n0_ := Aside0.mk (below_step (by repeat (first | (with_reducible first | exact HB.out | apply below_alloc | apply pw_below_drewN | apply below_drew1) | exact HB.out)) hb); clear HB; have HB := n0_; clear n0_; (try clear hb); (try clear hb2); (try clear hk); (try clear hi))); try go_wp2_with (first | (go_at_call 19; (with_reducible refine (haymowref03_instr.calls k5 _ _ l0 x5_2 ((rd_T58 ((rd_T50 l0 x5_2).f1) x6_5).f0) ((rd_T58 ((rd_T50 l0 x5_2).f1) x6_5).f1) ((rd_T58 ((rd_T50 l0 x5_2).f1) x6_5).f2) ((rd_T58 ((rd_T50 l0 x5_2).f1) x6_5).f3) ((rd_T58 ((rd_T50 l0 x5_2).f1) x6_5).f4) t156 _ ?side1 ?side2 A19.out).mono ?_); (case side1 => repeat (first | exact (Kd.C_below HR0.out HB.out) | (with_reducible refine Kd.C_alloc ?_ _) | (with_reducible refine Kd.C_drewN ?_ _) | (with_reducible refine Kd.C_drew ?_))); (case side2 => exact HC0.out); rintro e w21 ⟨rfl, hb⟩; have n0_ := Aside0.mk (below_step (by repeat (first | (with_reducible first | exact HB.out | apply below_alloc | apply pw_below_drewN | apply below_drew1) | exact HB.out)) hb); clear HB; have HB := n0_; clear n0_; (try clear hb); (try clear hb2); (try clear hk); (try clear hi))))
                                        go_roundg k5
                                        case measure => have := HJ1.out; have := HK2.out; have := HJ5.out; have := HJ9.out; have := HK5.out; omega
                                        case rel => exact ⟨(wrap64 (x6_5 + 1)), (by first | rfl | (simp; done) | (simp [*]; done)), H', ⟨by have := HJ1.out; have := HK2.out; have := HJ5.out; have := HJ9.out; have := HK5.out; omega⟩, ⟨by repeat (first | (with_reducible first | exact HB.out | apply below_alloc | apply pw_below_drewN | apply below_drew1) | exact HB.out)⟩⟩
                                      · rw [if_neg c20] at H
                                        have c20b0 : (t156 == 0) = false := beq_eq_false_iff_ne.mpr c20
                                        have c20b1 : (t156 != 0) = true := bne_iff_ne.mpr c20
                                        simp only [Option.some.injEq, Prod.mk.injEq] at H
                                        obtain ⟨rfl, rfl, rfl⟩ := H
                                        have p153 : 0 ≤ (x5_2 : Int) := of_decide_eq_true (by first | (with_reducible assumption) | assumption)
                                        have q153 : x5_2 < (l0.length : Int) := of_decide_eq_true (by first | (with_reducible assumption) | assumption)
                                        obtain ⟨ad153, A153_1, c153_1, e153, hx153_0, hx153_1, hl153_1, hi153_1⟩ := at_T50 HR0.out x5_2 p153 q153
                                        cases e153
                                        replace hx153_0 := (HB.out.cell (World.block_lt_of_cell? w _ hx153_0)).trans hx153_0
                                        replace hx153_1 := (HB.out.cell (World.block_lt_of_cell? w _ hx153_1)).trans hx153_1
                                        have HR153_1 := Aside0.mk hi153_1
                                        have HC153_1 := Aside0.mk hl153_1
                                        clear hi153_1 hl153_1
                                        replace p153 := eq_true p153
                                        replace q153 := eq_true q153
                                        have p154 : 0 ≤ (x5_2 : Int) := of_decide_eq_true (by first | (with_reducible assumption) | assumption)
                                        have q154 : x5_2 < (l0.length : Int) := of_decide_eq_true (by first | (with_reducible assumption) | assumption)
                                        obtain ⟨ad154, A154_1, c154_1, e154, hx154_0, hx154_1, hl154_1, hi154_1⟩ := at_T50 HR0.out x5_2 p154 q154
                                        obtain rfl : ad153 = ad154 := (by injection e154)
                                        replace hx154_0 := (HB.out.cell (World.block_lt_of_cell? w _ hx154_0)).trans hx154_0
                                        replace hx154_1 := (HB.out.cell (World.block_lt_of_cell? w _ hx154_1)).trans hx154_1
                                        have HR154_1 := Aside0.mk hi154_1
                                        have HC154_1 := Aside0.mk hl154_1
                                        clear hi154_1 hl154_1
                                        replace p154 := eq_true p154
                                        replace q154 := eq_true q154
                                        have ea_ := Option.some.inj (hx153_1.symm.trans hx154_1)
                                        injection ea_ with ea_ en_ ec_
                                        subst ea_
                                        subst ec_
                                        clear en_
                                        have p155 : 0 ≤ (x6_5 : Int) := of_decide_eq_true (by first | (with_reducible assumption) | assumption)
                                        have q155 : x6_5 < (((rd_T50 l0 x5_2).f1).length : Int) := of_decide_eq_true (by first | (with_reducible assumption) | assumption)
                                        obtain ⟨ad155, e155, hx155_0, hx155_1, hx155_2, hx155_3, hx155_4⟩ := at_T58 HR154_1.out x6_5 p155 q155
                                        cases e155
                                        replace hx155_0 := (HB.out.cell (World.block_lt_of_cell? w _ hx155_0)).trans hx155_0
                                        replace hx155_1 := (HB.out.cell (World.block_lt_of_cell? w _ hx155_1)).trans hx155_1
                                        replace hx155_2 := (HB.out.cell (World.block_lt_of_cell? w _ hx155_2)).trans hx155_2
                                        replace hx155_3 := (HB.out.cell (World.block_lt_of_cell? w _ hx155_3)).trans hx155_3
                                        replace hx155_4 := (HB.out.cell (World.block_lt_of_cell? w _ hx155_4)).trans hx155_4
                                        replace p155 := eq_true p155
                                        replace q155 := eq_true q155
                                        go_wp2_with (first | (go_at_call 19; (with_reducible refine (haymowref03_instr.calls k5 _ _ l0 x5_2 ((rd_T58 ((rd_T50 l0 x5_2).f1) x6_5).f0) ((rd_T58 ((rd_T50 l0 x5_2).f1) x6_5).f1) ((rd_T58 ((rd_T50 l0 x5_2).f1) x6_5).f2) ((rd_T58 ((rd_T50 l0 x5_2).f1) x6_5).f3) ((rd_T58 ((rd_T50 l0 x5_2).f1) x6_5).f4) t156 _ ?side1 ?side2 A19.out).mono ?_); (case side1 => repeat (first | exact (Kd.C_below HR0.out HB.out) | (with_reducible refine Kd.C_alloc ?_ _) | (with_reducible refine Kd.C_drewN ?_ _) | (with_reducible refine Kd.C_drew ?_))); (case side2 => exact HC0.out); rintro e w22 ⟨rfl, hb⟩; have n0_ := Aside0.mk (below_step (by repeat (first | (with_reducible first | exact HB.out | apply below_alloc | apply pw_below_drewN | apply below_drew1) | exact HB.out)) hb); clear HB; have HB := n0_; clear n0_; (try clear hb); (try clear hb2); (try clear hk); (try clear hi)))
                                        repeat (go_quiet (first | (go_at_call 19; (with_reducible refine (haymowref03_instr.calls k5 _ _ l0 x5_2 ((rd_T58 ((rd_T50 l0 x5_2).f1) x6_5).f0) ((rd_T58 ((rd_T50 l0 x5_2).f1) x6_5).f1) ((rd_T58 ((rd_T50 l0 x5_2).f1) x6_5).f2) ((rd_T58 ((rd_T50 l0 x5_2).f1) x6_5).f3) ((rd_T58 ((rd_T50 l0 x5_2).f1) x6_5).f4) t156 _ ?side1 ?side2 A19.out).mono ?_); (case side1 => repeat (first | exact (Kd.C_below HR0.out HB.out) | (with_reducible refine Kd.C_alloc ?_ _) | (with_reducible refine Kd.C_drewN ?_ _) | (with_reducible refine Kd.C_drew ?_))); (case side2 => exact HC0.out); rintro e w22 ⟨rfl, hb⟩; have n0_ := Aside0.mk (below_step (by repeat (first | (with_reducible first | exact HB.out | apply below_alloc | apply pw_below_drewN | apply below_drew1) | exact HB.out)) hb); clear HB; have HB := n0_; clear n0_; (try clear hb); (try clear hb2); (try clear hk); (try clear hi))); try go_wp2_with (first | (go_at_call 19; (with_reducible refine (haymowref03_instr.calls k5 _ _ l0 x5_2 ((rd_T58 ((rd_T50 l0 x5_2).f1) x6_5).f0) ((rd_T58 ((rd_T50 l0 x5_2).f1) x6_5).f1) ((rd_T58 ((rd_T50 l0 x5_2).f1) x6_5).f2) ((rd_T58 ((rd_T50 l0 x5_2).f1) x6_5).f3) ((rd_T58 ((rd_T50 l0 x5_2).f1) x6_5).f4) t156 _ ?side1 ?side2 A19.out).mono ?_); (case side1 => repeat (first | exact (Kd.C_below HR0.out HB.out) | (with_reducible refine Kd.C_alloc ?_ _) | (with_reducible refine Kd.C_drewN ?_ _) | (with_reducible refine Kd.C_drew ?_))); (case side2 => exact HC0.out); rintro e w22 ⟨rfl, hb⟩; have n0_ := Aside0.mk (below_step (by repeat (first | (with_reducible first | exact HB.out | apply below_alloc | apply pw_below_drewN | apply below_drew1) | exact HB.out)) hb); clear HB; have HB := n0_; clear n0_; (try clear hb); (try clear hb2); (try clear hk); (try clear hi))))
                                        go_ret3
                                        exact ⟨by first | rfl | (simp [errW_none, errW_some] <;> rfl) | (simp [*, errW_none, errW_some] <;> rfl), by repeat (first | (with_reducible first | exact HB.out | apply below_alloc | apply pw_below_drewN | apply below_drew1) | exact HB.out)⟩
                                    · rw [if_neg c18] at H
                                      exact absurd H (by simp)
                                  · rw [if_neg c17] at H
                                    have c17b0 : decide (x6_5 < (((rd_T50 l0 x5_2).f1).length : Int)) = false := decide_eq_false c17
                                    clear c17
                                    obtain ⟨ji23, hji23⟩ : ∃ j_ : Int, (wrap64 ((((rd_T50 l0 x5_2).f1).length : Int) - 1)) = j_ := ⟨_, rfl⟩
                                    replace H : (if 0 ≤ (ji23) then (if (ji23) < (((rd_T50 l0 x5_2).f1).length : Int) then (if ((rd_T58 ((rd_T50 l0 x5_2).f1) (ji23)).f0) = 9 then (haymowref03_Check.l0 k5 l0 (wrap64 (x5_2 + 1))) else (if ((rd_T58 ((rd_T50 l0 x5_2).f1) (ji23)).f0) = 16 then (haymowref03_Check.l0 k5 l0 (wrap64 (x5_2 + 1))) else (if ((rd_T58 ((rd_T50 l0 x5_2).f1) (ji23)).f0) = 17 then (haymowref03_Check.l0 k5 l0 (wrap64 (x5_2 + 1))) else (some (x5_2, ji23, 11))))) else (none)) else (none)) = some (r1, r2, r3) := by first | (rw [hji23] at H; exact H) | (simp only [hji23] at H ⊢; exact H)
                                    have hji23w : (IntKind.i64.wrap ((((rd_T50 l0 x5_2).f1).length : Int) - 1)) = ji23 := (i64_w _).trans hji23
                                    by_cases c24 : 0 ≤ (ji23)
                                    · rw [if_pos c24] at H
                                      have c24b0 : decide (0 ≤ (ji23)) = true := decide_eq_true c24
                                      clear c24
                                      by_cases c25 : (ji23) < (((rd_T50 l0 x5_2).f1).length : Int)
                                      · rw [if_pos c25] at H
                                        have c25b0 : decide ((ji23) < (((rd_T50 l0 x5_2).f1).length : Int)) = true := decide_eq_true c25
                                        clear c25
                                        by_cases c26 : ((rd_T58 ((rd_T50 l0 x5_2).f1) (ji23)).f0) = 9
                                        · rw [if_pos c26] at H
                                          have c26b0 : (((rd_T58 ((rd_T50 l0 x5_2).f1) (ji23)).f0) == 9) = true := beq_iff_eq.mpr c26
                                          have c26b1 : (((rd_T58 ((rd_T50 l0 x5_2).f1) (ji23)).f0) != 9) = false := bne_eq_false_iff_eq.mpr c26
                                          clear c26
                                          have H' := Aside0.mk H
                                          clear H
                                          have p153 : 0 ≤ (x5_2 : Int) := of_decide_eq_true (by first | (with_reducible assumption) | assumption)
                                          have q153 : x5_2 < (l0.length : Int) := of_decide_eq_true (by first | (with_reducible assumption) | assumption)
                                          obtain ⟨ad153, A153_1, c153_1, e153, hx153_0, hx153_1, hl153_1, hi153_1⟩ := at_T50 HR0.out x5_2 p153 q153
                                          cases e153
                                          replace hx153_0 := (HB.out.cell (World.block_lt_of_cell? w _ hx153_0)).trans hx153_0
                                          replace hx153_1 := (HB.out.cell (World.block_lt_of_cell? w _ hx153_1)).trans hx153_1
                                          have HR153_1 := Aside0.mk hi153_1
                                          have HC153_1 := Aside0.mk hl153_1
                                          clear hi153_1 hl153_1
                                          replace p153 := eq_true p153
                                          replace q153 := eq_true q153
                                          have p157 : 0 ≤ (x5_2 : Int) := of_decide_eq_true (by first | (with_reducible assumption) | assumption)
                                          have q157 : x5_2 < (l0.length : Int) := of_decide_eq_true (by first | (with_reducible assumption) | assumption)
                                          obtain ⟨ad157, A157_1, c157_1, e157, hx157_0, hx157_1, hl157_1, hi157_1⟩ := at_T50 HR0.out x5_2 p157 q157
                                          obtain rfl : ad153 = ad157 := (by injection e157)
                                          replace hx157_0 := (HB.out.cell (World.block_lt_of_cell? w _ hx157_0)).trans hx157_0
                                          replace hx157_1 := (HB.out.cell (World.block_lt_of_cell? w _ hx157_1)).trans hx157_1
                                          have HR157_1 := Aside0.mk hi157_1
                                          have HC157_1 := Aside0.mk hl157_1
                                          clear hi157_1 hl157_1
                                          replace p157 := eq_true p157
                                          replace q157 := eq_true q157
                                          have ea_ := Option.some.inj (hx153_1.symm.trans hx157_1)
                                          injection ea_ with ea_ en_ ec_
                                          subst ea_
                                          subst ec_
                                          clear en_
                                          have p158 : 0 ≤ (x5_2 : Int) := of_decide_eq_true (by first | (with_reducible assumption) | assumption)
                                          have q158 : x5_2 < (l0.length : Int) := of_decide_eq_true (by first | (with_reducible assumption) | assumption)
                                          obtain ⟨ad158, A158_1, c158_1, e158, hx158_0, hx158_1, hl158_1, hi158_1⟩ := at_T50 HR0.out x5_2 p158 q158
                                          obtain rfl : ad153 = ad158 := (by injection e158)
                                          replace hx158_0 := (HB.out.cell (World.block_lt_of_cell? w _ hx158_0)).trans hx158_0
                                          replace hx158_1 := (HB.out.cell (World.block_lt_of_cell? w _ hx158_1)).trans hx158_1
                                          have HR158_1 := Aside0.mk hi158_1
                                          have HC158_1 := Aside0.mk hl158_1
                                          clear hi158_1 hl158_1
                                          replace p158 := eq_true p158
                                          replace q158 := eq_true q158
                                          have ea_ := Option.some.inj (hx153_1.symm.trans hx158_1)
                                          injection ea_ with ea_ en_ ec_
                                          subst ea_
                                          subst ec_
                                          clear en_
                                          have p159 : 0 ≤ ((ji23) : Int) := of_decide_eq_true (by first | (with_reducible assumption) | assumption)
                                          have q159 : (ji23) < (((rd_T50 l0 x5_2).f1).length : Int) := of_decide_eq_true (by first | (with_reducible assumption) | assumption)
                                          obtain ⟨ad159, e159, hx159_0, hx159_1, hx159_2, hx159_3, hx159_4⟩ := at_T58 HR157_1.out (ji23) p159 q159
                                          cases e159
                                          replace hx159_0 := (HB.out.cell (World.block_lt_of_cell? w _ hx159_0)).trans hx159_0
                                          replace hx159_1 := (HB.out.cell (World.block_lt_of_cell? w _ hx159_1)).trans hx159_1
                                          replace hx159_2 := (HB.out.cell (World.block_lt_of_cell? w _ hx159_2)).trans hx159_2
                                          replace hx159_3 := (HB.out.cell (World.block_lt_of_cell? w _ hx159_3)).trans hx159_3
                                          replace hx159_4 := (HB.out.cell (World.block_lt_of_cell? w _ hx159_4)).trans hx159_4
                                          replace p159 := eq_true p159
                                          replace q159 := eq_true q159
                                          go_wp2
                                          repeat (go_quiet (fail); try go_wp2)
                                          go_roundg k5
                                          case measure => have := HJ1.out; have := HK2.out; have := HJ5.out; have := HJ9.out; have := HK5.out; omega
                                          case rel => exact ⟨(wrap64 (x5_2 + 1)), (by first | rfl | (simp; done) | (simp [*]; done)), H', ⟨by have := HJ1.out; have := HK2.out; have := HJ5.out; have := HJ9.out; have := HK5.out; omega⟩, ⟨by repeat (first | (with_reducible first | exact HB.out | apply below_alloc | apply pw_below_drewN | apply below_drew1) | exact HB.out)⟩⟩
                                        · rw [if_neg c26] at H
                                          have c26b0 : (((rd_T58 ((rd_T50 l0 x5_2).f1) (ji23)).f0) == 9) = false := beq_eq_false_iff_ne.mpr c26
                                          have c26b1 : (((rd_T58 ((rd_T50 l0 x5_2).f1) (ji23)).f0) != 9) = true := bne_iff_ne.mpr c26
                                          by_cases c27 : ((rd_T58 ((rd_T50 l0 x5_2).f1) (ji23)).f0) = 16
                                          · rw [if_pos c27] at H
                                            have c27b0 : (((rd_T58 ((rd_T50 l0 x5_2).f1) (ji23)).f0) == 16) = true := beq_iff_eq.mpr c27
                                            have c27b1 : (((rd_T58 ((rd_T50 l0 x5_2).f1) (ji23)).f0) != 16) = false := bne_eq_false_iff_eq.mpr c27
                                            clear c27
                                            have H' := Aside0.mk H
                                            clear H
                                            have p153 : 0 ≤ (x5_2 : Int) := of_decide_eq_true (by first | (with_reducible assumption) | assumption)
                                            have q153 : x5_2 < (l0.length : Int) := of_decide_eq_true (by first | (with_reducible assumption) | assumption)
                                            obtain ⟨ad153, A153_1, c153_1, e153, hx153_0, hx153_1, hl153_1, hi153_1⟩ := at_T50 HR0.out x5_2 p153 q153
                                            cases e153
                                            replace hx153_0 := (HB.out.cell (World.block_lt_of_cell? w _ hx153_0)).trans hx153_0
                                            replace hx153_1 := (HB.out.cell (World.block_lt_of_cell? w _ hx153_1)).trans hx153_1
                                            have HR153_1 := Aside0.mk hi153_1
                                            have HC153_1 := Aside0.mk hl153_1
                                            clear hi153_1 hl153_1
                                            replace p153 := eq_true p153
                                            replace q153 := eq_true q153
                                            have p157 : 0 ≤ (x5_2 : Int) := of_decide_eq_true (by first | (with_reducible assumption) | assumption)
                                            have q157 : x5_2 < (l0.length : Int) := of_decide_eq_true (by first | (with_reducible assumption) | assumption)
                                            obtain ⟨ad157, A157_1, c157_1, e157, hx157_0, hx157_1, hl157_1, hi157_1⟩ := at_T50 HR0.out x5_2 p157 q157
                                            obtain rfl : ad153 = ad157 := (by injection e157)
                                            replace hx157_0 := (HB.out.cell (World.block_lt_of_cell? w _ hx157_0)).trans hx157_0
                                            replace hx157_1 := (HB.out.cell (World.block_lt_of_cell? w _ hx157_1)).trans hx157_1
                                            have HR157_1 := Aside0.mk hi157_1
                                            have HC157_1 := Aside0.mk hl157_1
                                            clear hi157_1 hl157_1
                                            replace p157 := eq_true p157
                                            replace q157 := eq_true q157
                                            have ea_ := Option.some.inj (hx153_1.symm.trans hx157_1)
                                            injection ea_ with ea_ en_ ec_
                                            subst ea_
                                            subst ec_
                                            clear en_
                                            have p158 : 0 ≤ (x5_2 : Int) := of_decide_eq_true (by first | (with_reducible assumption) | assumption)
                                            have q158 : x5_2 < (l0.length : Int) := of_decide_eq_true (by first | (with_reducible assumption) | assumption)
                                            obtain ⟨ad158, A158_1, c158_1, e158, hx158_0, hx158_1, hl158_1, hi158_1⟩ := at_T50 HR0.out x5_2 p158 q158
                                            obtain rfl : ad153 = ad158 := (by injection e158)
                                            replace hx158_0 := (HB.out.cell (World.block_lt_of_cell? w _ hx158_0)).trans hx158_0
                                            replace hx158_1 := (HB.out.cell (World.block_lt_of_cell? w _ hx158_1)).trans hx158_1
                                            have HR158_1 := Aside0.mk hi158_1
                                            have HC158_1 := Aside0.mk hl158_1
                                            clear hi158_1 hl158_1
                                            replace p158 := eq_true p158
                                            replace q158 := eq_true q158
                                            have ea_ := Option.some.inj (hx153_1.symm.trans hx158_1)
                                            injection ea_ with ea_ en_ ec_
                                            subst ea_
                                            subst ec_
                                            clear en_
                                            have p159 : 0 ≤ ((ji23) : Int) := of_decide_eq_true (by first | (with_reducible assumption) | assumption)
                                            have q159 : (ji23) < (((rd_T50 l0 x5_2).f1).length : Int) := of_decide_eq_true (by first | (with_reducible assumption) | assumption)
                                            obtain ⟨ad159, e159, hx159_0, hx159_1, hx159_2, hx159_3, hx159_4⟩ := at_T58 HR157_1.out (ji23) p159 q159
                                            cases e159
                                            replace hx159_0 := (HB.out.cell (World.block_lt_of_cell? w _ hx159_0)).trans hx159_0
                                            replace hx159_1 := (HB.out.cell (World.block_lt_of_cell? w _ hx159_1)).trans hx159_1
                                            replace hx159_2 := (HB.out.cell (World.block_lt_of_cell? w _ hx159_2)).trans hx159_2
                                            replace hx159_3 := (HB.out.cell (World.block_lt_of_cell? w _ hx159_3)).trans hx159_3
                                            replace hx159_4 := (HB.out.cell (World.block_lt_of_cell? w _ hx159_4)).trans hx159_4
                                            replace p159 := eq_true p159
                                            replace q159 := eq_true q159
                                            go_wp2
                                            repeat (go_quiet (fail); try go_wp2)
                                            go_roundg k5
                                            case measure => have := HJ1.out; have := HK2.out; have := HJ5.out; have := HJ9.out; have := HK5.out; omega
                                            case rel => exact ⟨(wrap64 (x5_2 + 1)), (by first | rfl | (simp; done) | (simp [*]; done)), H', ⟨by have := HJ1.out; have := HK2.out; have := HJ5.out; have := HJ9.out; have := HK5.out; omega⟩, ⟨by repeat (first | (with_reducible first | exact HB.out | apply below_alloc | apply pw_below_drewN | apply below_drew1) | exact HB.out)⟩⟩
                                          · rw [if_neg c27] at H
                                            have c27b0 : (((rd_T58 ((rd_T50 l0 x5_2).f1) (ji23)).f0) == 16) = false := beq_eq_false_iff_ne.mpr c27
                                            have c27b1 : (((rd_T58 ((rd_T50 l0 x5_2).f1) (ji23)).f0) != 16) = true := bne_iff_ne.mpr c27
                                            by_cases c28 : ((rd_T58 ((rd_T50 l0 x5_2).f1) (ji23)).f0) = 17
                                            · rw [if_pos c28] at H
                                              have c28b0 : (((rd_T58 ((rd_T50 l0 x5_2).f1) (ji23)).f0) == 17) = true := beq_iff_eq.mpr c28
                                              have c28b1 : (((rd_T58 ((rd_T50 l0 x5_2).f1) (ji23)).f0) != 17) = false := bne_eq_false_iff_eq.mpr c28
                                              clear c28
                                              have H' := Aside0.mk H
                                              clear H
                                              have p153 : 0 ≤ (x5_2 : Int) := of_decide_eq_true (by first | (with_reducible assumption) | assumption)
                                              have q153 : x5_2 < (l0.length : Int) := of_decide_eq_true (by first | (with_reducible assumption) | assumption)
                                              obtain ⟨ad153, A153_1, c153_1, e153, hx153_0, hx153_1, hl153_1, hi153_1⟩ := at_T50 HR0.out x5_2 p153 q153
                                              cases e153
                                              replace hx153_0 := (HB.out.cell (World.block_lt_of_cell? w _ hx153_0)).trans hx153_0
                                              replace hx153_1 := (HB.out.cell (World.block_lt_of_cell? w _ hx153_1)).trans hx153_1
                                              have HR153_1 := Aside0.mk hi153_1
                                              have HC153_1 := Aside0.mk hl153_1
                                              clear hi153_1 hl153_1
                                              replace p153 := eq_true p153
                                              replace q153 := eq_true q153
                                              have p157 : 0 ≤ (x5_2 : Int) := of_decide_eq_true (by first | (with_reducible assumption) | assumption)
                                              have q157 : x5_2 < (l0.length : Int) := of_decide_eq_true (by first | (with_reducible assumption) | assumption)
                                              obtain ⟨ad157, A157_1, c157_1, e157, hx157_0, hx157_1, hl157_1, hi157_1⟩ := at_T50 HR0.out x5_2 p157 q157
                                              obtain rfl : ad153 = ad157 := (by injection e157)
                                              replace hx157_0 := (HB.out.cell (World.block_lt_of_cell? w _ hx157_0)).trans hx157_0
                                              replace hx157_1 := (HB.out.cell (World.block_lt_of_cell? w _ hx157_1)).trans hx157_1
                                              have HR157_1 := Aside0.mk hi157_1
                                              have HC157_1 := Aside0.mk hl157_1
                                              clear hi157_1 hl157_1
                                              replace p157 := eq_true p157
                                              replace q157 := eq_true q157
                                              have ea_ := Option.some.inj (hx153_1.symm.trans hx157_1)
                                              injection ea_ with ea_ en_ ec_
                                              subst ea_
                                              subst ec_
                                              clear en_
                                              have p158 : 0 ≤ (x5_2 : Int) := of_decide_eq_true (by first | (with_reducible assumption) | assumption)
                                              have q158 : x5_2 < (l0.length : Int) := of_decide_eq_true (by first | (with_reducible assumption) | assumption)
                                              obtain ⟨ad158, A158_1, c158_1, e158, hx158_0, hx158_1, hl158_1, hi158_1⟩ := at_T50 HR0.out x5_2 p158 q158
                                              obtain rfl : ad153 = ad158 := (by injection e158)
                                              replace hx158_0 := (HB.out.cell (World.block_lt_of_cell? w _ hx158_0)).trans hx158_0
                                              replace hx158_1 := (HB.out.cell (World.block_lt_of_cell? w _ hx158_1)).trans hx158_1
                                              have HR158_1 := Aside0.mk hi158_1
                                              have HC158_1 := Aside0.mk hl158_1
                                              clear hi158_1 hl158_1
                                              replace p158 := eq_true p158
                                              replace q158 := eq_true q158
                                              have ea_ := Option.some.inj (hx153_1.symm.trans hx158_1)
                                              injection ea_ with ea_ en_ ec_
                                              subst ea_
                                              subst ec_
                                              clear en_
                                              have p159 : 0 ≤ ((ji23) : Int) := of_decide_eq_true (by first | (with_reducible assumption) | assumption)
                                              have q159 : (ji23) < (((rd_T50 l0 x5_2).f1).length : Int) := of_decide_eq_true (by first | (with_reducible assumption) | assumption)
                                              obtain ⟨ad159, e159, hx159_0, hx159_1, hx159_2, hx159_3, hx159_4⟩ := at_T58 HR157_1.out (ji23) p159 q159
                                              cases e159
                                              replace hx159_0 := (HB.out.cell (World.block_lt_of_cell? w _ hx159_0)).trans hx159_0
                                              replace hx159_1 := (HB.out.cell (World.block_lt_of_cell? w _ hx159_1)).trans hx159_1
                                              replace hx159_2 := (HB.out.cell (World.block_lt_of_cell? w _ hx159_2)).trans hx159_2
                                              replace hx159_3 := (HB.out.cell (World.block_lt_of_cell? w _ hx159_3)).trans hx159_3
                                              replace hx159_4 := (HB.out.cell (World.block_lt_of_cell? w _ hx159_4)).trans hx159_4
                                              replace p159 := eq_true p159
                                              replace q159 := eq_true q159
                                              go_wp2
                                              repeat (go_quiet (fail); try go_wp2)
                                              go_roundg k5
                                              case measure => have := HJ1.out; have := HK2.out; have := HJ5.out; have := HJ9.out; have := HK5.out; omega
                                              case rel => exact ⟨(wrap64 (x5_2 + 1)), (by first | rfl | (simp; done) | (simp [*]; done)), H', ⟨by have := HJ1.out; have := HK2.out; have := HJ5.out; have := HJ9.out; have := HK5.out; omega⟩, ⟨by repeat (first | (with_reducible first | exact HB.out | apply below_alloc | apply pw_below_drewN | apply below_drew1) | exact HB.out)⟩⟩
                                            · rw [if_neg c28] at H
                                              have c28b0 : (((rd_T58 ((rd_T50 l0 x5_2).f1) (ji23)).f0) == 17) = false := beq_eq_false_iff_ne.mpr c28
                                              have c28b1 : (((rd_T58 ((rd_T50 l0 x5_2).f1) (ji23)).f0) != 17) = true := bne_iff_ne.mpr c28
                                              simp only [Option.some.injEq, Prod.mk.injEq] at H
                                              obtain ⟨rfl, rfl, rfl⟩ := H
                                              have p153 : 0 ≤ (x5_2 : Int) := of_decide_eq_true (by first | (with_reducible assumption) | assumption)
                                              have q153 : x5_2 < (l0.length : Int) := of_decide_eq_true (by first | (with_reducible assumption) | assumption)
                                              obtain ⟨ad153, A153_1, c153_1, e153, hx153_0, hx153_1, hl153_1, hi153_1⟩ := at_T50 HR0.out x5_2 p153 q153
                                              cases e153
                                              replace hx153_0 := (HB.out.cell (World.block_lt_of_cell? w _ hx153_0)).trans hx153_0
                                              replace hx153_1 := (HB.out.cell (World.block_lt_of_cell? w _ hx153_1)).trans hx153_1
                                              have HR153_1 := Aside0.mk hi153_1
                                              have HC153_1 := Aside0.mk hl153_1
                                              clear hi153_1 hl153_1
                                              replace p153 := eq_true p153
                                              replace q153 := eq_true q153
                                              have p157 : 0 ≤ (x5_2 : Int) := of_decide_eq_true (by first | (with_reducible assumption) | assumption)
                                              have q157 : x5_2 < (l0.length : Int) := of_decide_eq_true (by first | (with_reducible assumption) | assumption)
                                              obtain ⟨ad157, A157_1, c157_1, e157, hx157_0, hx157_1, hl157_1, hi157_1⟩ := at_T50 HR0.out x5_2 p157 q157
                                              obtain rfl : ad153 = ad157 := (by injection e157)
                                              replace hx157_0 := (HB.out.cell (World.block_lt_of_cell? w _ hx157_0)).trans hx157_0
                                              replace hx157_1 := (HB.out.cell (World.block_lt_of_cell? w _ hx157_1)).trans hx157_1
                                              have HR157_1 := Aside0.mk hi157_1
                                              have HC157_1 := Aside0.mk hl157_1
                                              clear hi157_1 hl157_1
                                              replace p157 := eq_true p157
                                              replace q157 := eq_true q157
                                              have ea_ := Option.some.inj (hx153_1.symm.trans hx157_1)
                                              injection ea_ with ea_ en_ ec_
                                              subst ea_
                                              subst ec_
                                              clear en_
                                              have p158 : 0 ≤ (x5_2 : Int) := of_decide_eq_true (by first | (with_reducible assumption) | assumption)
                                              have q158 : x5_2 < (l0.length : Int) := of_decide_eq_true (by first | (with_reducible assumption) | assumption)
                                              obtain ⟨ad158, A158_1, c158_1, e158, hx158_0, hx158_1, hl158_1, hi158_1⟩ := at_T50 HR0.out x5_2 p158 q158
                                              obtain rfl : ad153 = ad158 := (by injection e158)
                                              replace hx158_0 := (HB.out.cell (World.block_lt_of_cell? w _ hx158_0)).trans hx158_0
                                              replace hx158_1 := (HB.out.cell (World.block_lt_of_cell? w _ hx158_1)).trans hx158_1
                                              have HR158_1 := Aside0.mk hi158_1
                                              have HC158_1 := Aside0.mk hl158_1
                                              clear hi158_1 hl158_1
                                              replace p158 := eq_true p158
                                              replace q158 := eq_true q158
                                              have ea_ := Option.some.inj (hx153_1.symm.trans hx158_1)
                                              injection ea_ with ea_ en_ ec_
                                              subst ea_
                                              subst ec_
                                              clear en_
                                              have p159 : 0 ≤ ((ji23) : Int) := of_decide_eq_true (by first | (with_reducible assumption) | assumption)
                                              have q159 : (ji23) < (((rd_T50 l0 x5_2).f1).length : Int) := of_decide_eq_true (by first | (with_reducible assumption) | assumption)
                                              obtain ⟨ad159, e159, hx159_0, hx159_1, hx159_2, hx159_3, hx159_4⟩ := at_T58 HR157_1.out (ji23) p159 q159
                                              cases e159
                                              replace hx159_0 := (HB.out.cell (World.block_lt_of_cell? w _ hx159_0)).trans hx159_0
                                              replace hx159_1 := (HB.out.cell (World.block_lt_of_cell? w _ hx159_1)).trans hx159_1
                                              replace hx159_2 := (HB.out.cell (World.block_lt_of_cell? w _ hx159_2)).trans hx159_2
                                              replace hx159_3 := (HB.out.cell (World.block_lt_of_cell? w _ hx159_3)).trans hx159_3
                                              replace hx159_4 := (HB.out.cell (World.block_lt_of_cell? w _ hx159_4)).trans hx159_4
                                              replace p159 := eq_true p159
                                              replace q159 := eq_true q159
                                              have p160 : 0 ≤ (x5_2 : Int) := of_decide_eq_true (by first | (with_reducible assumption) | assumption)
                                              have q160 : x5_2 < (l0.length : Int) := of_decide_eq_true (by first | (with_reducible assumption) | assumption)
                                              obtain ⟨ad160, A160_1, c160_1, e160, hx160_0, hx160_1, hl160_1, hi160_1⟩ := at_T50 HR0.out x5_2 p160 q160
                                              obtain rfl : ad153 = ad160 := (by injection e160)
                                              replace hx160_0 := (HB.out.cell (World.block_lt_of_cell? w _ hx160_0)).trans hx160_0
                                              replace hx160_1 := (HB.out.cell (World.block_lt_of_cell? w _ hx160_1)).trans hx160_1
                                              have HR160_1 := Aside0.mk hi160_1
                                              have HC160_1 := Aside0.mk hl160_1
                                              clear hi160_1 hl160_1
                                              replace p160 := eq_true p160
                                              replace q160 := eq_true q160
                                              have ea_ := Option.some.inj (hx153_1.symm.trans hx160_1)
                                              injection ea_ with ea_ en_ ec_
                                              subst ea_
                                              subst ec_
                                              clear en_
                                              go_wp2
                                              repeat (go_quiet (fail); try go_wp2)
                                              go_ret3
                                              exact ⟨by first | rfl | (simp [errW_none, errW_some] <;> rfl) | (simp only [← hji23]; first | rfl | (simp [errW_none, errW_some] <;> rfl)) | (simp [*, errW_none, errW_some] <;> rfl), by repeat (first | (with_reducible first | exact HB.out | apply below_alloc | apply pw_below_drewN | apply below_drew1) | exact HB.out)⟩
                                      · rw [if_neg c25] at H
                                        exact absurd H (by simp)
                                    · rw [if_neg c24] at H
                                      exact absurd H (by simp)
                                · rw [if_neg c16] at H
                                  exact absurd H (by simp)
                              · rw [if_neg c15] at H
                                exact absurd H (by simp)
            · rw [if_neg c5] at H
              have c5b0 : decide (x5_2 < (l0.length : Int)) = false := decide_eq_false c5
              clear c5
              simp only [Option.some.injEq, Prod.mk.injEq] at H
              obtain ⟨rfl, rfl, rfl⟩ := H
              go_wp2
              repeat (go_quiet (fail); try go_wp2)
              go_ret3
              exact ⟨by first | rfl | (simp [errW_none, errW_some] <;> rfl) | (simp [*, errW_none, errW_some] <;> rfl), by repeat (first | (with_reducible first | exact HB.out | apply below_alloc | apply pw_below_drewN | apply below_drew1) | exact HB.out)⟩

end Go.Proofs.Ytkbbgkhanmmhpaa.H
