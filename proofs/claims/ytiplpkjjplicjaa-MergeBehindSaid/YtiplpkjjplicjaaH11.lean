-- made by this session's gen.py over the kit's print.py; not trusted: Lean checks it
import Derived.Test.YtiplpkjjplicjaaH0
namespace Go.Proofs.Ytiplpkjjplicjaa.H
open Go.RowKit Go.Proofs.YtiplpkjjplicjaaW.PrintWords Go.Proofs.YtiplpkjjplicjaaW.PrintLast Go.Proofs.YtiplpkjjplicjaaW.PrintMore
attribute [local go_sem] max2_int min2_int max_two min_two max_three min_three max_four min_four   -- for this text's walks alone
set_option linter.unusedVariables false
set_option linter.unusedSimpArgs false

/-! ### haymowref07_Right: function 13 -/
mutual
def haymowref07_Right.j0 : Nat → List (S63) → Int → Bool → List (S64) → List Int → Int → Int → Option (Bool)
  | 0, _, _, _, _, _, _, _ => none
  | k + 1, x0, x2, x26, x112000, x112001, x112002, x112003 => if x26 = true then (some false) else (haymowref07_Right.l0 k x0 x2 0 0 x112000 x112001 x112002 x112003)
def haymowref07_Right.l0 : Nat → List (S63) → Int → Int → Int → List (S64) → List Int → Int → Int → Option (Bool)
  | 0, _, _, _, _, _, _, _, _ => none
  | k + 1, x0, x2, x8, x9, x112000, x112001, x112002, x112003 => if x9 < (x112000.length : Int) then (if 0 ≤ x9 then (if (rd_T64 x112000 x9).f0 = true then (if ((rd_T64 x112000 x9).f1) = x8 then (haymowref07_Right.l0 k x0 x2 (wrap64 (x8 + 1)) (wrap64 (x9 + 1)) x112000 x112001 x112002 x112003) else (some false)) else (haymowref07_Right.l0 k x0 x2 x8 (wrap64 (x9 + 1)) x112000 x112001 x112002 x112003)) else (none)) else (if x8 = (x112001.length : Int) then (haymowref07_Right.l1 k x0 x2 0 x112000 x112001 x112002 x112003) else (some false))
def haymowref07_Right.l1 : Nat → List (S63) → Int → Int → List (S64) → List Int → Int → Int → Option (Bool)
  | 0, _, _, _, _, _, _, _ => none
  | k + 1, x0, x2, x10, x112000, x112001, x112002, x112003 => if x10 < (x112001.length : Int) then (if 0 ≤ x10 then ((haymowref07_Right.f k x0 (rd x112001 x10) (wrap64 (x2 + 1))).bind fun t115 => (if t115 = true then (haymowref07_Right.l1 k x0 x2 (wrap64 (x10 + 1)) x112000 x112001 x112002 x112003) else (some false))) else (none)) else (some true)
def haymowref07_Right.f : Nat → List (S63) → Int → Int → Option (Bool)
  | 0, _, _, _ => none
  | k + 1, l0, a1, a2 => if 0 ≤ a1 then (if a1 < (l0.length : Int) then (if a2 > 30 then (haymowref07_Right.j0 k l0 a2 true ((rd_T63 l0 a1).f0) ((rd_T63 l0 a1).f1) ((rd_T63 l0 a1).f2) ((rd_T63 l0 a1).f3)) else (if ((rd_T63 l0 a1).f3) = 0 then (haymowref07_Right.j0 k l0 a2 false ((rd_T63 l0 a1).f0) ((rd_T63 l0 a1).f1) ((rd_T63 l0 a1).f2) ((rd_T63 l0 a1).f3)) else (haymowref07_Right.j0 k l0 a2 (((rd_T63 l0 a1).f2) != 0) ((rd_T63 l0 a1).f0) ((rd_T63 l0 a1).f1) ((rd_T63 l0 a1).f2) ((rd_T63 l0 a1).f3)))) else (none)) else (none)
end
theorem haymowref07_Right.mono_l : ∀ k, (∀ y0 y1 y2, LeO (haymowref07_Right.f k y0 y1 y2) (haymowref07_Right.f (k + 1) y0 y1 y2)) ∧ (∀ y0 y1 y2 y3 y4 y5 y6, LeO (haymowref07_Right.j0 k y0 y1 y2 y3 y4 y5 y6) (haymowref07_Right.j0 (k + 1) y0 y1 y2 y3 y4 y5 y6)) ∧ (∀ y0 y1 y2 y3 y4 y5 y6 y7, LeO (haymowref07_Right.l0 k y0 y1 y2 y3 y4 y5 y6 y7) (haymowref07_Right.l0 (k + 1) y0 y1 y2 y3 y4 y5 y6 y7)) ∧ (∀ y0 y1 y2 y3 y4 y5 y6, LeO (haymowref07_Right.l1 k y0 y1 y2 y3 y4 y5 y6) (haymowref07_Right.l1 (k + 1) y0 y1 y2 y3 y4 y5 y6))
  | 0 => ⟨fun _ _ _ r h => by simp [haymowref07_Right.f] at h, fun _ _ _ _ _ _ _ r h => by simp [haymowref07_Right.j0] at h, fun _ _ _ _ _ _ _ _ r h => by simp [haymowref07_Right.l0] at h, fun _ _ _ _ _ _ _ r h => by simp [haymowref07_Right.l1] at h⟩
  | k + 1 => by
    obtain ⟨ih0, ih1, ih2, ih3⟩ := haymowref07_Right.mono_l k
    refine ⟨?_, ?_, ?_, ?_⟩
    · intro y0 y1 y2
      unfold haymowref07_Right.f
      repeat' first
      | (with_reducible exact ih0 _ _ _)
      | (with_reducible exact ih1 _ _ _ _ _ _ _)
      | (with_reducible exact ih2 _ _ _ _ _ _ _ _)
      | (with_reducible exact ih3 _ _ _ _ _ _ _)
      | (with_reducible exact LeO.refl _)
      | (with_reducible exact LeO.none _)
      | (with_reducible refine LeO.ite ?_ ?_)
      | (with_reducible refine LeO.bind ?_ (fun _ => ?_))
      | exact ih0 _ _ _
      | exact ih1 _ _ _ _ _ _ _
      | exact ih2 _ _ _ _ _ _ _ _
      | exact ih3 _ _ _ _ _ _ _
      | exact LeO.none _
      | refine LeO.ite ?_ ?_
      | refine LeO.bind ?_ (fun _ => ?_)
    · intro y0 y1 y2 y3 y4 y5 y6
      unfold haymowref07_Right.j0
      repeat' first
      | (with_reducible exact ih0 _ _ _)
      | (with_reducible exact ih1 _ _ _ _ _ _ _)
      | (with_reducible exact ih2 _ _ _ _ _ _ _ _)
      | (with_reducible exact ih3 _ _ _ _ _ _ _)
      | (with_reducible exact LeO.refl _)
      | (with_reducible exact LeO.none _)
      | (with_reducible refine LeO.ite ?_ ?_)
      | (with_reducible refine LeO.bind ?_ (fun _ => ?_))
      | exact ih0 _ _ _
      | exact ih1 _ _ _ _ _ _ _
      | exact ih2 _ _ _ _ _ _ _ _
      | exact ih3 _ _ _ _ _ _ _
      | exact LeO.none _
      | refine LeO.ite ?_ ?_
      | refine LeO.bind ?_ (fun _ => ?_)
    · intro y0 y1 y2 y3 y4 y5 y6 y7
      unfold haymowref07_Right.l0
      repeat' first
      | (with_reducible exact ih0 _ _ _)
      | (with_reducible exact ih1 _ _ _ _ _ _ _)
      | (with_reducible exact ih2 _ _ _ _ _ _ _ _)
      | (with_reducible exact ih3 _ _ _ _ _ _ _)
      | (with_reducible exact LeO.refl _)
      | (with_reducible exact LeO.none _)
      | (with_reducible refine LeO.ite ?_ ?_)
      | (with_reducible refine LeO.bind ?_ (fun _ => ?_))
      | exact ih0 _ _ _
      | exact ih1 _ _ _ _ _ _ _
      | exact ih2 _ _ _ _ _ _ _ _
      | exact ih3 _ _ _ _ _ _ _
      | exact LeO.none _
      | refine LeO.ite ?_ ?_
      | refine LeO.bind ?_ (fun _ => ?_)
    · intro y0 y1 y2 y3 y4 y5 y6
      unfold haymowref07_Right.l1
      repeat' first
      | (with_reducible exact ih0 _ _ _)
      | (with_reducible exact ih1 _ _ _ _ _ _ _)
      | (with_reducible exact ih2 _ _ _ _ _ _ _ _)
      | (with_reducible exact ih3 _ _ _ _ _ _ _)
      | (with_reducible exact LeO.refl _)
      | (with_reducible exact LeO.none _)
      | (with_reducible refine LeO.ite ?_ ?_)
      | (with_reducible refine LeO.bind ?_ (fun _ => ?_))
      | exact ih0 _ _ _
      | exact ih1 _ _ _ _ _ _ _
      | exact ih2 _ _ _ _ _ _ _ _
      | exact ih3 _ _ _ _ _ _ _
      | exact LeO.none _
      | refine LeO.ite ?_ ?_
      | refine LeO.bind ?_ (fun _ => ?_)
theorem haymowref07_Right.mono : ∀ a0 a1 a2 k, LeO (haymowref07_Right.f k a0 a1 a2) (haymowref07_Right.f (k + 1) a0 a1 a2) := by
  intro a0 a1 a2 k
  obtain ⟨ih0, ih1, ih2, ih3⟩ := haymowref07_Right.mono_l k
  exact ih0 a0 a1 a2
set_option maxHeartbeats 8000000 in
set_option maxRecDepth 100000 in
theorem haymowref07_Right.calls (k : Nat) : ∀ (A0 : Option Addr) (c0 : Nat) (l0 : List (S63)) (a1 : Int) (a2 : Int) (r : Bool) (w : World) (hr0 : Kd.C k63 w A0 l0.length l0) (hc0 : l0.length ≤ c0) (h : haymowref07_Right.f k l0 a1 a2 = some r),
    Calls Try.prog 13 #[.slice A0 l0.length c0, .int .i64 a1, .int .i64 a2] w fun e w' => e = .returned (.bool r) ∧ Below w.heap.size w w' := by
  induction k using Nat.strongRecOn with
  | _ k ih =>
  intro A0 c0 l0 a1 a2 r w hr0 hc0 h
  cases k with
  | zero => exact absurd h (by simp [haymowref07_Right.f])
  | succ k =>
  simp only [haymowref07_Right.f] at h
  have hu63 := Try.underlying63
  have HR0 := Aside0.mk hr0
  have HC0 := Aside0.mk hc0
  clear hr0 hc0
  have HB := Aside0.mk (Below.refl w.heap.size w)
  have H : (if 0 ≤ a1 then (if a1 < (l0.length : Int) then (if a2 > 30 then (haymowref07_Right.j0 k l0 a2 true ((rd_T63 l0 a1).f0) ((rd_T63 l0 a1).f1) ((rd_T63 l0 a1).f2) ((rd_T63 l0 a1).f3)) else (if ((rd_T63 l0 a1).f3) = 0 then (haymowref07_Right.j0 k l0 a2 false ((rd_T63 l0 a1).f0) ((rd_T63 l0 a1).f1) ((rd_T63 l0 a1).f2) ((rd_T63 l0 a1).f3)) else (haymowref07_Right.j0 k l0 a2 (((rd_T63 l0 a1).f2) != 0) ((rd_T63 l0 a1).f0) ((rd_T63 l0 a1).f1) ((rd_T63 l0 a1).f2) ((rd_T63 l0 a1).f3)))) else (none)) else (none)) = some r := h
  clear h
  by_cases c4 : 0 ≤ a1
  · rw [if_pos c4] at H
    have c4b0 : decide (0 ≤ a1) = true := decide_eq_true c4
    clear c4
    by_cases c5 : a1 < (l0.length : Int)
    · rw [if_pos c5] at H
      have c5b0 : decide (a1 < (l0.length : Int)) = true := decide_eq_true c5
      clear c5
      have HC6 := Aside0.mk H
      clear H
      have p110 : 0 ≤ (a1 : Int) := of_decide_eq_true (by first | (with_reducible assumption) | assumption)
      have q110 : a1 < (l0.length : Int) := of_decide_eq_true (by first | (with_reducible assumption) | assumption)
      obtain ⟨ad110, A110_0, c110_0, A110_1, c110_1, e110, hx110_0, hx110_1, hx110_2, hx110_3, hl110_0, hi110_0, hl110_1, hi110_1⟩ := at_T63 HR0.out a1 p110 q110
      cases e110
      have HR110_0 := Aside0.mk hi110_0
      have HC110_0 := Aside0.mk hl110_0
      clear hi110_0 hl110_0
      have HR110_1 := Aside0.mk hi110_1
      have HC110_1 := Aside0.mk hl110_1
      clear hi110_1 hl110_1
      replace p110 := eq_true p110
      replace q110 := eq_true q110
      go_enter Try.func13, Try.ntmps13
      go_upto_region 2 with (first | ((with_reducible refine gate_dst (N := 7) rfl ?_); refine box_event ?hg (N := 7) ?hd (cs := #[.slice none 0 0, .slice none 0 0, .int .i64 0, .int .i64 0]) (t := 63) ?hr ?_; (case hd => rfl); (case hg => rfl); (case hr => first | (go_simp; done) | (go_simp; rfl)); intro gb111 hg w7 hbox hb; have n0_ := Aside0.mk (below_step (by repeat (first | (with_reducible first | exact HB.out | apply below_alloc | apply pw_below_drewN | apply below_drew1) | exact HB.out)) hb); have n1_ := Aside0.mk (hbox); have n2_ := Aside0.mk ((by rw [hg]; exact (below_size (by repeat (first | (with_reducible first | exact HB.out | apply below_alloc | apply pw_below_drewN | apply below_drew1) | exact HB.out))) : w.heap.size ≤ gb111)); have n3_ := Aside0.mk ((by rw [hg]; exact (below_size (by repeat (first | (with_reducible first | exact HB.out | apply below_alloc | apply pw_below_drewN | apply below_drew1) | exact HB.out))) : w.heap.size ≤ gb111)); clear HB; have HB := n0_; have BK111 := n1_; have GW111 := n2_; have GE111 := n3_; clear n0_ n1_ n2_ n3_; clear hb hbox hg; have hcz8_0 : w7.cell? ⟨gb111, 0, none⟩ = some (.slice none 0 0) := (blk_cell BK111.out 0).trans rfl; have hcz8_1 : w7.cell? ⟨gb111, 1, none⟩ = some (.slice none 0 0) := (blk_cell BK111.out 1).trans rfl; have hcz8_2 : w7.cell? ⟨gb111, 2, none⟩ = some (.int .i64 0) := (blk_cell BK111.out 2).trans rfl; have hcz8_3 : w7.cell? ⟨gb111, 3, none⟩ = some (.int .i64 0) := (blk_cell BK111.out 3).trans rfl; have hfz8_0 := blk_frozen BK111.out 0; have hfz8_1 := blk_frozen BK111.out 1; have hfz8_2 := blk_frozen BK111.out 2; have hfz8_3 := blk_frozen BK111.out 3))
      (try simp only [Act.put, List.setIfInBounds_toArray, List.set_cons_zero, List.set_cons_succ])
      go_cut [26] (fun v26 wc => ∃ (kq : Nat) (x26_5 : Bool), v26 = .bool x26_5 ∧ Aside0 (haymowref07_Right.j0 kq l0 a2 x26_5 ((rd_T63 l0 a1).f0) ((rd_T63 l0 a1).f1) ((rd_T63 l0 a1).f2) ((rd_T63 l0 a1).f3) = some r) ∧ Aside0 (kq ≤ k) ∧ Aside0 (wc.heap[gb111]? = some (.cells #[(.slice A110_0 ((rd_T63 l0 a1).f0).length c110_0), (.slice A110_1 ((rd_T63 l0 a1).f1).length c110_1), .int .i64 ((rd_T63 l0 a1).f2), .int .i64 ((rd_T63 l0 a1).f3)] 63 (0, 0))) ∧ Aside0 (Below w.heap.size w wc))
      case first =>
        have H := HC6.out
        clear HC6
        by_cases c9 : a2 > 30
        · rw [if_pos c9] at H
          have c9b0 : decide (30 < a2) = true := decide_eq_true c9
          clear c9
          (first | rw [c9b0] | (simp only [i64_w, i32_w]; rw [c9b0]) | skip)
          have H' := Aside0.mk H
          clear H
          go_wp2
          go_meet
          case rel => exact ⟨_, (true), (by first | rfl | (simp; done) | (simp [*]; done)), H', ⟨by first | omega | exact Nat.le_refl _⟩, ⟨by (with_reducible repeat (first | refine blk_drewN ?_ _ | refine blk_drew ?_ | refine blk_alloc ?_ _)); refine blk_put (cs := #[.slice A110_0 ((rd_T63 l0 a1).f0).length c110_0, .slice A110_1 ((rd_T63 l0 a1).f1).length c110_1, .int .i64 ((rd_T63 l0 a1).f2), .int .i64 0]) ?_ 3 _ rfl; (with_reducible repeat (first | refine blk_drewN ?_ _ | refine blk_drew ?_ | refine blk_alloc ?_ _)); refine blk_put (cs := #[.slice A110_0 ((rd_T63 l0 a1).f0).length c110_0, .slice A110_1 ((rd_T63 l0 a1).f1).length c110_1, .int .i64 0, .int .i64 0]) ?_ 2 _ rfl; (with_reducible repeat (first | refine blk_drewN ?_ _ | refine blk_drew ?_ | refine blk_alloc ?_ _)); refine blk_put (cs := #[.slice A110_0 ((rd_T63 l0 a1).f0).length c110_0, .slice none 0 0, .int .i64 0, .int .i64 0]) ?_ 1 _ rfl; (with_reducible repeat (first | refine blk_drewN ?_ _ | refine blk_drew ?_ | refine blk_alloc ?_ _)); refine blk_put (cs := #[.slice none 0 0, .slice none 0 0, .int .i64 0, .int .i64 0]) ?_ 0 _ rfl; (with_reducible repeat (first | refine blk_drewN ?_ _ | refine blk_drew ?_ | refine blk_alloc ?_ _)); exact BK111.out⟩, ⟨by repeat (first | (with_reducible first | exact HB.out | apply below_alloc | apply pw_below_drewN | apply below_drew1 | refine below_set ?_ GE111.out) | exact HB.out)⟩⟩
        · rw [if_neg c9] at H
          have c9b0 : decide (30 < a2) = false := decide_eq_false c9
          clear c9
          (first | rw [c9b0] | (simp only [i64_w, i32_w]; rw [c9b0]) | skip)
          by_cases c10 : ((rd_T63 l0 a1).f3) = 0
          · rw [if_pos c10] at H
            have c10b0 : (((rd_T63 l0 a1).f3) == 0) = true := beq_iff_eq.mpr c10
            have c10b1 : (((rd_T63 l0 a1).f3) != 0) = false := bne_eq_false_iff_eq.mpr c10
            clear c10
            have H' := Aside0.mk H
            clear H
            have hcz11_0 : w7.cell? ⟨gb111, 0, none⟩ = some (.slice none 0 0) := (blk_cell BK111.out 0).trans rfl
            have hcz11_1 : w7.cell? ⟨gb111, 1, none⟩ = some (.slice none 0 0) := (blk_cell BK111.out 1).trans rfl
            have hcz11_2 : w7.cell? ⟨gb111, 2, none⟩ = some (.int .i64 0) := (blk_cell BK111.out 2).trans rfl
            have hcz11_3 : w7.cell? ⟨gb111, 3, none⟩ = some (.int .i64 0) := (blk_cell BK111.out 3).trans rfl
            have hfz11_0 := blk_frozen BK111.out 0
            have hfz11_1 := blk_frozen BK111.out 1
            have hfz11_2 := blk_frozen BK111.out 2
            have hfz11_3 := blk_frozen BK111.out 3
            go_wp2
            go_meet
            case rel => exact ⟨_, (false), (by first | rfl | (simp; done) | (simp [*]; done)), H', ⟨by first | omega | exact Nat.le_refl _⟩, ⟨by (with_reducible repeat (first | refine blk_drewN ?_ _ | refine blk_drew ?_ | refine blk_alloc ?_ _)); refine blk_put (cs := #[.slice A110_0 ((rd_T63 l0 a1).f0).length c110_0, .slice A110_1 ((rd_T63 l0 a1).f1).length c110_1, .int .i64 ((rd_T63 l0 a1).f2), .int .i64 0]) ?_ 3 _ rfl; (with_reducible repeat (first | refine blk_drewN ?_ _ | refine blk_drew ?_ | refine blk_alloc ?_ _)); refine blk_put (cs := #[.slice A110_0 ((rd_T63 l0 a1).f0).length c110_0, .slice A110_1 ((rd_T63 l0 a1).f1).length c110_1, .int .i64 0, .int .i64 0]) ?_ 2 _ rfl; (with_reducible repeat (first | refine blk_drewN ?_ _ | refine blk_drew ?_ | refine blk_alloc ?_ _)); refine blk_put (cs := #[.slice A110_0 ((rd_T63 l0 a1).f0).length c110_0, .slice none 0 0, .int .i64 0, .int .i64 0]) ?_ 1 _ rfl; (with_reducible repeat (first | refine blk_drewN ?_ _ | refine blk_drew ?_ | refine blk_alloc ?_ _)); refine blk_put (cs := #[.slice none 0 0, .slice none 0 0, .int .i64 0, .int .i64 0]) ?_ 0 _ rfl; (with_reducible repeat (first | refine blk_drewN ?_ _ | refine blk_drew ?_ | refine blk_alloc ?_ _)); exact BK111.out⟩, ⟨by repeat (first | (with_reducible first | exact HB.out | apply below_alloc | apply pw_below_drewN | apply below_drew1 | refine below_set ?_ GE111.out) | exact HB.out)⟩⟩
          · rw [if_neg c10] at H
            have c10b0 : (((rd_T63 l0 a1).f3) == 0) = false := beq_eq_false_iff_ne.mpr c10
            have c10b1 : (((rd_T63 l0 a1).f3) != 0) = true := bne_iff_ne.mpr c10
            have H' := Aside0.mk H
            clear H
            have hcz12_0 : w7.cell? ⟨gb111, 0, none⟩ = some (.slice none 0 0) := (blk_cell BK111.out 0).trans rfl
            have hcz12_1 : w7.cell? ⟨gb111, 1, none⟩ = some (.slice none 0 0) := (blk_cell BK111.out 1).trans rfl
            have hcz12_2 : w7.cell? ⟨gb111, 2, none⟩ = some (.int .i64 0) := (blk_cell BK111.out 2).trans rfl
            have hcz12_3 : w7.cell? ⟨gb111, 3, none⟩ = some (.int .i64 0) := (blk_cell BK111.out 3).trans rfl
            have hfz12_0 := blk_frozen BK111.out 0
            have hfz12_1 := blk_frozen BK111.out 1
            have hfz12_2 := blk_frozen BK111.out 2
            have hfz12_3 := blk_frozen BK111.out 3
            go_wp2
            go_meet
            case rel => exact ⟨_, ((((rd_T63 l0 a1).f2) != 0)), (by first | rfl | (simp; done) | (simp [*]; done)), H', ⟨by first | omega | exact Nat.le_refl _⟩, ⟨by (with_reducible repeat (first | refine blk_drewN ?_ _ | refine blk_drew ?_ | refine blk_alloc ?_ _)); refine blk_put (cs := #[.slice A110_0 ((rd_T63 l0 a1).f0).length c110_0, .slice A110_1 ((rd_T63 l0 a1).f1).length c110_1, .int .i64 ((rd_T63 l0 a1).f2), .int .i64 0]) ?_ 3 _ rfl; (with_reducible repeat (first | refine blk_drewN ?_ _ | refine blk_drew ?_ | refine blk_alloc ?_ _)); refine blk_put (cs := #[.slice A110_0 ((rd_T63 l0 a1).f0).length c110_0, .slice A110_1 ((rd_T63 l0 a1).f1).length c110_1, .int .i64 0, .int .i64 0]) ?_ 2 _ rfl; (with_reducible repeat (first | refine blk_drewN ?_ _ | refine blk_drew ?_ | refine blk_alloc ?_ _)); refine blk_put (cs := #[.slice A110_0 ((rd_T63 l0 a1).f0).length c110_0, .slice none 0 0, .int .i64 0, .int .i64 0]) ?_ 1 _ rfl; (with_reducible repeat (first | refine blk_drewN ?_ _ | refine blk_drew ?_ | refine blk_alloc ?_ _)); refine blk_put (cs := #[.slice none 0 0, .slice none 0 0, .int .i64 0, .int .i64 0]) ?_ 0 _ rfl; (with_reducible repeat (first | refine blk_drewN ?_ _ | refine blk_drew ?_ | refine blk_alloc ?_ _)); exact BK111.out⟩, ⟨by repeat (first | (with_reducible first | exact HB.out | apply below_alloc | apply pw_below_drewN | apply below_drew1 | refine below_set ?_ GE111.out) | exact HB.out)⟩⟩
      case rest =>
        clear HC6
        try clear c1
        try clear p1
        try clear q1
        try clear hx1
        try clear p2
        try clear c4
        try clear c4b0
        try clear c5
        try clear c5b0
        try clear c9
        try clear c9b0
        try clear c10
        try clear c10b0
        try clear c10b1
        try clear c11
        try clear p11
        try clear q11
        try clear hx11
        try clear hcz11_0
        try clear hcz11_1
        try clear hcz11_2
        try clear hcz11_3
        try clear hcz12_0
        try clear hcz12_1
        try clear hcz12_2
        try clear hcz12_3
        try clear hcz8_0
        try clear hcz8_1
        try clear hcz8_2
        try clear hcz8_3
        try clear hfz11_0
        try clear hfz11_1
        try clear hfz11_2
        try clear hfz11_3
        try clear hfz12_0
        try clear hfz12_1
        try clear hfz12_2
        try clear hfz12_3
        try clear hfz8_0
        try clear hfz8_1
        try clear hfz8_2
        try clear hfz8_3
        try clear hx110_0
        try clear hx110_1
        try clear hx110_2
        try clear hx110_3
        try clear p110
        try clear q110
        obtain ⟨kq, x26_5, rfl, HA, HJ5, BK111, HB⟩ := hcut
        cases kq with
        | zero => exact absurd HA.out (by simp [haymowref07_Right.j0])
        | succ kj5 =>
          have H := HA.out
          clear HA
          simp only [haymowref07_Right.j0] at H
          by_cases c13 : x26_5 = true
          · subst c13
            have H1 : (some false) = some r := by rw [if_pos rfl] at H; exact H
            clear H
            have H := H1
            clear H1
            obtain rfl := Option.some.inj H
            go_wp2
            go_ret
            exact ⟨by first | rfl | (simp [errW_none, errW_some] <;> rfl) | (simp [*, errW_none, errW_some] <;> rfl), by repeat (first | (with_reducible first | exact HB.out | apply below_alloc | apply pw_below_drewN | apply below_drew1 | refine below_set ?_ GE111.out) | exact HB.out)⟩
          · replace c13 := Bool.eq_false_iff.mpr c13
            subst c13
            have H1 : (haymowref07_Right.l0 kj5 l0 a2 0 0 ((rd_T63 l0 a1).f0) ((rd_T63 l0 a1).f1) ((rd_T63 l0 a1).f2) ((rd_T63 l0 a1).f3)) = some r := by rw [if_neg (show ¬ (false = true) by decide)] at H; exact H
            clear H
            have H := H1
            clear H1
            have H' := Aside0.mk H
            clear H
            go_wp2
            go_loopg [8, 9] kj5 (fun kq v8 v9 w' => ∃ (x8_2 : Int) (x9_2 : Int), v8 = .int .i64 x8_2 ∧ v9 = .int .i64 x9_2 ∧ Aside0 (haymowref07_Right.l0 kq l0 a2 x8_2 x9_2 ((rd_T63 l0 a1).f0) ((rd_T63 l0 a1).f1) ((rd_T63 l0 a1).f2) ((rd_T63 l0 a1).f3) = some r) ∧ Aside0 (kq ≤ kj5) ∧ Aside0 (w'.heap[gb111]? = some (.cells #[(.slice A110_0 ((rd_T63 l0 a1).f0).length c110_0), (.slice A110_1 ((rd_T63 l0 a1).f1).length c110_1), .int .i64 ((rd_T63 l0 a1).f2), .int .i64 ((rd_T63 l0 a1).f3)] 63 (0, 0))) ∧ Aside0 (Below w.heap.size w w'))
            case atStart => exact ⟨(0), (0), (by first | rfl | (simp; done) | (simp [*]; done)), (by first | rfl | (simp; done) | (simp [*]; done)), H', ⟨Nat.le_refl _⟩, ⟨by (with_reducible repeat (first | refine blk_drewN ?_ _ | refine blk_drew ?_ | refine blk_alloc ?_ _)); exact BK111.out⟩, ⟨by repeat (first | (with_reducible first | exact HB.out | apply below_alloc | apply pw_below_drewN | apply below_drew1 | refine below_set ?_ GE111.out) | exact HB.out)⟩⟩
            case round =>
              clear H'
              try clear c1
              try clear p1
              try clear q1
              try clear hx1
              try clear p2
              try clear c4
              try clear c4b0
              try clear c5
              try clear c5b0
              try clear c9
              try clear c9b0
              try clear c10
              try clear c10b0
              try clear c10b1
              try clear c11
              try clear p11
              try clear q11
              try clear hx11
              try clear c13
              try clear hcz11_0
              try clear hcz11_1
              try clear hcz11_2
              try clear hcz11_3
              try clear hcz12_0
              try clear hcz12_1
              try clear hcz12_2
              try clear hcz12_3
              try clear hcz8_0
              try clear hcz8_1
              try clear hcz8_2
              try clear hcz8_3
              try clear hfz11_0
              try clear hfz11_1
              try clear hfz11_2
              try clear hfz11_3
              try clear hfz12_0
              try clear hfz12_1
              try clear hfz12_2
              try clear hfz12_3
              try clear hfz8_0
              try clear hfz8_1
              try clear hfz8_2
              try clear hfz8_3
              try clear hx110_0
              try clear hx110_1
              try clear hx110_2
              try clear hx110_3
              try clear p1
              try clear p11
              try clear p110
              try clear p2
              try clear q1
              try clear q11
              try clear q110
              obtain ⟨x8_2, x9_2, rfl, rfl, HA, HK2, BK111, HB⟩ := hrel
              cases gk with
              | zero => exact absurd HA.out (by simp [haymowref07_Right.l0])
              | succ k2 =>
                have H := HA.out
                clear HA
                simp only [haymowref07_Right.l0] at H
                by_cases c14 : x9_2 < (((rd_T63 l0 a1).f0).length : Int)
                · rw [if_pos c14] at H
                  have c14b0 : decide (x9_2 < (((rd_T63 l0 a1).f0).length : Int)) = true := decide_eq_true c14
                  clear c14
                  by_cases c15 : 0 ≤ x9_2
                  · rw [if_pos c15] at H
                    have c15b0 : decide (0 ≤ x9_2) = true := decide_eq_true c15
                    clear c15
                    obtain ⟨bq16, hbq16⟩ : ∃ b_ : Bool, b_ = ((rd_T64 ((rd_T63 l0 a1).f0) x9_2).f0) := ⟨_, rfl⟩
                    replace H : (if bq16 = true then (if ((rd_T64 ((rd_T63 l0 a1).f0) x9_2).f1) = x8_2 then (haymowref07_Right.l0 k2 l0 a2 (wrap64 (x8_2 + 1)) (wrap64 (x9_2 + 1)) ((rd_T63 l0 a1).f0) ((rd_T63 l0 a1).f1) ((rd_T63 l0 a1).f2) ((rd_T63 l0 a1).f3)) else (some false)) else (haymowref07_Right.l0 k2 l0 a2 x8_2 (wrap64 (x9_2 + 1)) ((rd_T63 l0 a1).f0) ((rd_T63 l0 a1).f1) ((rd_T63 l0 a1).f2) ((rd_T63 l0 a1).f3))) = some r := by rw [← hbq16] at H; exact H
                    have Nbq16 := Aside0.mk hbq16
                    clear hbq16
                    by_cases c17 : bq16 = true
                    · subst c17
                      have H1 : (if ((rd_T64 ((rd_T63 l0 a1).f0) x9_2).f1) = x8_2 then (haymowref07_Right.l0 k2 l0 a2 (wrap64 (x8_2 + 1)) (wrap64 (x9_2 + 1)) ((rd_T63 l0 a1).f0) ((rd_T63 l0 a1).f1) ((rd_T63 l0 a1).f2) ((rd_T63 l0 a1).f3)) else (some false)) = some r := by rw [if_pos rfl] at H; exact H
                      clear H
                      have H := H1
                      clear H1
                      by_cases c18 : ((rd_T64 ((rd_T63 l0 a1).f0) x9_2).f1) = x8_2
                      · rw [if_pos c18] at H
                        have c18b0 : (((rd_T64 ((rd_T63 l0 a1).f0) x9_2).f1) == x8_2) = true := beq_iff_eq.mpr c18
                        have c18b1 : (((rd_T64 ((rd_T63 l0 a1).f0) x9_2).f1) != x8_2) = false := bne_eq_false_iff_eq.mpr c18
                        clear c18
                        have H' := Aside0.mk H
                        clear H
                        have hcz19_0 : wr.cell? ⟨gb111, 0, none⟩ = some (.slice A110_0 ((rd_T63 l0 a1).f0).length c110_0) := (blk_cell BK111.out 0).trans rfl
                        have hcz19_1 : wr.cell? ⟨gb111, 1, none⟩ = some (.slice A110_1 ((rd_T63 l0 a1).f1).length c110_1) := (blk_cell BK111.out 1).trans rfl
                        have hcz19_2 : wr.cell? ⟨gb111, 2, none⟩ = some (.int .i64 ((rd_T63 l0 a1).f2)) := (blk_cell BK111.out 2).trans rfl
                        have hcz19_3 : wr.cell? ⟨gb111, 3, none⟩ = some (.int .i64 ((rd_T63 l0 a1).f3)) := (blk_cell BK111.out 3).trans rfl
                        have hfz19_0 := blk_frozen BK111.out 0
                        have hfz19_1 := blk_frozen BK111.out 1
                        have hfz19_2 := blk_frozen BK111.out 2
                        have hfz19_3 := blk_frozen BK111.out 3
                        have p112 : 0 ≤ (x9_2 : Int) := of_decide_eq_true (by first | (with_reducible assumption) | assumption)
                        have q112 : x9_2 < (((rd_T63 l0 a1).f0).length : Int) := of_decide_eq_true (by first | (with_reducible assumption) | assumption)
                        obtain ⟨ad112, e112, hx112_0, hx112_1⟩ := at_T64 HR110_0.out x9_2 p112 q112
                        (try rw [← Nbq16.out] at hx112_0)
                        cases e112
                        replace hx112_0 := (HB.out.cell (World.block_lt_of_cell? w _ hx112_0)).trans hx112_0
                        replace hx112_1 := (HB.out.cell (World.block_lt_of_cell? w _ hx112_1)).trans hx112_1
                        replace p112 := eq_true p112
                        replace q112 := eq_true q112
                        have p113 : 0 ≤ (x9_2 : Int) := of_decide_eq_true (by first | (with_reducible assumption) | assumption)
                        have q113 : x9_2 < (((rd_T63 l0 a1).f0).length : Int) := of_decide_eq_true (by first | (with_reducible assumption) | assumption)
                        obtain ⟨ad113, e113, hx113_0, hx113_1⟩ := at_T64 HR110_0.out x9_2 p113 q113
                        (try rw [← Nbq16.out] at hx113_0)
                        obtain rfl : ad112 = ad113 := (by injection e113)
                        replace hx113_0 := (HB.out.cell (World.block_lt_of_cell? w _ hx113_0)).trans hx113_0
                        replace hx113_1 := (HB.out.cell (World.block_lt_of_cell? w _ hx113_1)).trans hx113_1
                        replace p113 := eq_true p113
                        replace q113 := eq_true q113
                        go_wp2
                        go_roundg k2
                        case measure => have := HJ5.out; have := HK2.out; omega
                        case rel => exact ⟨(wrap64 (x8_2 + 1)), (wrap64 (x9_2 + 1)), (by first | rfl | (simp; done) | (simp [*]; done)), (by first | rfl | (simp; done) | (simp [*]; done)), H', ⟨by have := HJ5.out; have := HK2.out; omega⟩, ⟨by (with_reducible repeat (first | refine blk_drewN ?_ _ | refine blk_drew ?_ | refine blk_alloc ?_ _)); exact BK111.out⟩, ⟨by repeat (first | (with_reducible first | exact HB.out | apply below_alloc | apply pw_below_drewN | apply below_drew1 | refine below_set ?_ GE111.out) | exact HB.out)⟩⟩
                      · rw [if_neg c18] at H
                        have c18b0 : (((rd_T64 ((rd_T63 l0 a1).f0) x9_2).f1) == x8_2) = false := beq_eq_false_iff_ne.mpr c18
                        have c18b1 : (((rd_T64 ((rd_T63 l0 a1).f0) x9_2).f1) != x8_2) = true := bne_iff_ne.mpr c18
                        obtain rfl := Option.some.inj H
                        have hcz20_0 : wr.cell? ⟨gb111, 0, none⟩ = some (.slice A110_0 ((rd_T63 l0 a1).f0).length c110_0) := (blk_cell BK111.out 0).trans rfl
                        have hcz20_1 : wr.cell? ⟨gb111, 1, none⟩ = some (.slice A110_1 ((rd_T63 l0 a1).f1).length c110_1) := (blk_cell BK111.out 1).trans rfl
                        have hcz20_2 : wr.cell? ⟨gb111, 2, none⟩ = some (.int .i64 ((rd_T63 l0 a1).f2)) := (blk_cell BK111.out 2).trans rfl
                        have hcz20_3 : wr.cell? ⟨gb111, 3, none⟩ = some (.int .i64 ((rd_T63 l0 a1).f3)) := (blk_cell BK111.out 3).trans rfl
                        have hfz20_0 := blk_frozen BK111.out 0
                        have hfz20_1 := blk_frozen BK111.out 1
                        have hfz20_2 := blk_frozen BK111.out 2
                        have hfz20_3 := blk_frozen BK111.out 3
                        have p112 : 0 ≤ (x9_2 : Int) := of_decide_eq_true (by first | (with_reducible assumption) | assumption)
                        have q112 : x9_2 < (((rd_T63 l0 a1).f0).length : Int) := of_decide_eq_true (by first | (with_reducible assumption) | assumption)
                        obtain ⟨ad112, e112, hx112_0, hx112_1⟩ := at_T64 HR110_0.out x9_2 p112 q112
                        (try rw [← Nbq16.out] at hx112_0)
                        cases e112
                        replace hx112_0 := (HB.out.cell (World.block_lt_of_cell? w _ hx112_0)).trans hx112_0
                        replace hx112_1 := (HB.out.cell (World.block_lt_of_cell? w _ hx112_1)).trans hx112_1
                        replace p112 := eq_true p112
                        replace q112 := eq_true q112
                        have p113 : 0 ≤ (x9_2 : Int) := of_decide_eq_true (by first | (with_reducible assumption) | assumption)
                        have q113 : x9_2 < (((rd_T63 l0 a1).f0).length : Int) := of_decide_eq_true (by first | (with_reducible assumption) | assumption)
                        obtain ⟨ad113, e113, hx113_0, hx113_1⟩ := at_T64 HR110_0.out x9_2 p113 q113
                        (try rw [← Nbq16.out] at hx113_0)
                        obtain rfl : ad112 = ad113 := (by injection e113)
                        replace hx113_0 := (HB.out.cell (World.block_lt_of_cell? w _ hx113_0)).trans hx113_0
                        replace hx113_1 := (HB.out.cell (World.block_lt_of_cell? w _ hx113_1)).trans hx113_1
                        replace p113 := eq_true p113
                        replace q113 := eq_true q113
                        go_wp2
                        go_ret
                        exact ⟨by first | rfl | (simp [errW_none, errW_some] <;> rfl) | (simp [*, errW_none, errW_some] <;> rfl), by repeat (first | (with_reducible first | exact HB.out | apply below_alloc | apply pw_below_drewN | apply below_drew1 | refine below_set ?_ GE111.out) | exact HB.out)⟩
                    · replace c17 := Bool.eq_false_iff.mpr c17
                      subst c17
                      have H1 : (haymowref07_Right.l0 k2 l0 a2 x8_2 (wrap64 (x9_2 + 1)) ((rd_T63 l0 a1).f0) ((rd_T63 l0 a1).f1) ((rd_T63 l0 a1).f2) ((rd_T63 l0 a1).f3)) = some r := by rw [if_neg (show ¬ (false = true) by decide)] at H; exact H
                      clear H
                      have H := H1
                      clear H1
                      have H' := Aside0.mk H
                      clear H
                      have hcz21_0 : wr.cell? ⟨gb111, 0, none⟩ = some (.slice A110_0 ((rd_T63 l0 a1).f0).length c110_0) := (blk_cell BK111.out 0).trans rfl
                      have hcz21_1 : wr.cell? ⟨gb111, 1, none⟩ = some (.slice A110_1 ((rd_T63 l0 a1).f1).length c110_1) := (blk_cell BK111.out 1).trans rfl
                      have hcz21_2 : wr.cell? ⟨gb111, 2, none⟩ = some (.int .i64 ((rd_T63 l0 a1).f2)) := (blk_cell BK111.out 2).trans rfl
                      have hcz21_3 : wr.cell? ⟨gb111, 3, none⟩ = some (.int .i64 ((rd_T63 l0 a1).f3)) := (blk_cell BK111.out 3).trans rfl
                      have hfz21_0 := blk_frozen BK111.out 0
                      have hfz21_1 := blk_frozen BK111.out 1
                      have hfz21_2 := blk_frozen BK111.out 2
                      have hfz21_3 := blk_frozen BK111.out 3
                      have p112 : 0 ≤ (x9_2 : Int) := of_decide_eq_true (by first | (with_reducible assumption) | assumption)
                      have q112 : x9_2 < (((rd_T63 l0 a1).f0).length : Int) := of_decide_eq_true (by first | (with_reducible assumption) | assumption)
                      obtain ⟨ad112, e112, hx112_0, hx112_1⟩ := at_T64 HR110_0.out x9_2 p112 q112
                      (try rw [← Nbq16.out] at hx112_0)
                      cases e112
                      replace hx112_0 := (HB.out.cell (World.block_lt_of_cell? w _ hx112_0)).trans hx112_0
                      replace hx112_1 := (HB.out.cell (World.block_lt_of_cell? w _ hx112_1)).trans hx112_1
                      replace p112 := eq_true p112
                      replace q112 := eq_true q112
                      go_wp2
                      go_roundg k2
                      case measure => have := HJ5.out; have := HK2.out; omega
                      case rel => exact ⟨(x8_2), (wrap64 (x9_2 + 1)), (by first | rfl | (simp; done) | (simp [*]; done)), (by first | rfl | (simp; done) | (simp [*]; done)), H', ⟨by have := HJ5.out; have := HK2.out; omega⟩, ⟨by (with_reducible repeat (first | refine blk_drewN ?_ _ | refine blk_drew ?_ | refine blk_alloc ?_ _)); exact BK111.out⟩, ⟨by repeat (first | (with_reducible first | exact HB.out | apply below_alloc | apply pw_below_drewN | apply below_drew1 | refine below_set ?_ GE111.out) | exact HB.out)⟩⟩
                  · rw [if_neg c15] at H
                    exact absurd H (by simp)
                · rw [if_neg c14] at H
                  have c14b0 : decide (x9_2 < (((rd_T63 l0 a1).f0).length : Int)) = false := decide_eq_false c14
                  clear c14
                  by_cases c22 : x8_2 = (((rd_T63 l0 a1).f1).length : Int)
                  · rw [if_pos c22] at H
                    have c22b0 : (x8_2 == (((rd_T63 l0 a1).f1).length : Int)) = true := beq_iff_eq.mpr c22
                    have c22b1 : (x8_2 != (((rd_T63 l0 a1).f1).length : Int)) = false := bne_eq_false_iff_eq.mpr c22
                    clear c22
                    have H' := Aside0.mk H
                    clear H
                    have hcz23_0 : wr.cell? ⟨gb111, 0, none⟩ = some (.slice A110_0 ((rd_T63 l0 a1).f0).length c110_0) := (blk_cell BK111.out 0).trans rfl
                    have hcz23_1 : wr.cell? ⟨gb111, 1, none⟩ = some (.slice A110_1 ((rd_T63 l0 a1).f1).length c110_1) := (blk_cell BK111.out 1).trans rfl
                    have hcz23_2 : wr.cell? ⟨gb111, 2, none⟩ = some (.int .i64 ((rd_T63 l0 a1).f2)) := (blk_cell BK111.out 2).trans rfl
                    have hcz23_3 : wr.cell? ⟨gb111, 3, none⟩ = some (.int .i64 ((rd_T63 l0 a1).f3)) := (blk_cell BK111.out 3).trans rfl
                    have hfz23_0 := blk_frozen BK111.out 0
                    have hfz23_1 := blk_frozen BK111.out 1
                    have hfz23_2 := blk_frozen BK111.out 2
                    have hfz23_3 := blk_frozen BK111.out 3
                    go_wp2
                    go_loopg [10] k2 (fun kq v10 w' => ∃ (x10_3 : Int), v10 = .int .i64 x10_3 ∧ Aside0 (haymowref07_Right.l1 kq l0 a2 x10_3 ((rd_T63 l0 a1).f0) ((rd_T63 l0 a1).f1) ((rd_T63 l0 a1).f2) ((rd_T63 l0 a1).f3) = some r) ∧ Aside0 (kq ≤ k2) ∧ Aside0 (w'.heap[gb111]? = some (.cells #[(.slice A110_0 ((rd_T63 l0 a1).f0).length c110_0), (.slice A110_1 ((rd_T63 l0 a1).f1).length c110_1), .int .i64 ((rd_T63 l0 a1).f2), .int .i64 ((rd_T63 l0 a1).f3)] 63 (0, 0))) ∧ Aside0 (Below w.heap.size w w'))
                    case atStart => exact ⟨(0), (by first | rfl | (simp; done) | (simp [*]; done)), H', ⟨Nat.le_refl _⟩, ⟨by (with_reducible repeat (first | refine blk_drewN ?_ _ | refine blk_drew ?_ | refine blk_alloc ?_ _)); exact BK111.out⟩, ⟨by repeat (first | (with_reducible first | exact HB.out | apply below_alloc | apply pw_below_drewN | apply below_drew1 | refine below_set ?_ GE111.out) | exact HB.out)⟩⟩
                    case round =>
                      clear H'
                      try clear c1
                      try clear p1
                      try clear q1
                      try clear hx1
                      try clear c2
                      try clear p2
                      try clear c4
                      try clear c4b0
                      try clear c5
                      try clear c5b0
                      try clear p6
                      try clear c9
                      try clear c9b0
                      try clear c10
                      try clear c10b0
                      try clear c10b1
                      try clear c11
                      try clear p11
                      try clear q11
                      try clear hx11
                      try clear c13
                      try clear c14
                      try clear c14b0
                      try clear c15
                      try clear c15b0
                      try clear q16
                      try clear c17
                      try clear c18
                      try clear c18b0
                      try clear c18b1
                      try clear c22
                      try clear c22b0
                      try clear c22b1
                      try clear hcz11_0
                      try clear hcz11_1
                      try clear hcz11_2
                      try clear hcz11_3
                      try clear hcz12_0
                      try clear hcz12_1
                      try clear hcz12_2
                      try clear hcz12_3
                      try clear hcz19_0
                      try clear hcz19_1
                      try clear hcz19_2
                      try clear hcz19_3
                      try clear hcz20_0
                      try clear hcz20_1
                      try clear hcz20_2
                      try clear hcz20_3
                      try clear hcz21_0
                      try clear hcz21_1
                      try clear hcz21_2
                      try clear hcz21_3
                      try clear hcz23_0
                      try clear hcz23_1
                      try clear hcz23_2
                      try clear hcz23_3
                      try clear hcz8_0
                      try clear hcz8_1
                      try clear hcz8_2
                      try clear hcz8_3
                      try clear hfz11_0
                      try clear hfz11_1
                      try clear hfz11_2
                      try clear hfz11_3
                      try clear hfz12_0
                      try clear hfz12_1
                      try clear hfz12_2
                      try clear hfz12_3
                      try clear hfz19_0
                      try clear hfz19_1
                      try clear hfz19_2
                      try clear hfz19_3
                      try clear hfz20_0
                      try clear hfz20_1
                      try clear hfz20_2
                      try clear hfz20_3
                      try clear hfz21_0
                      try clear hfz21_1
                      try clear hfz21_2
                      try clear hfz21_3
                      try clear hfz23_0
                      try clear hfz23_1
                      try clear hfz23_2
                      try clear hfz23_3
                      try clear hfz8_0
                      try clear hfz8_1
                      try clear hfz8_2
                      try clear hfz8_3
                      try clear hx110_0
                      try clear hx110_1
                      try clear hx110_2
                      try clear hx110_3
                      try clear hx112_0
                      try clear hx112_1
                      try clear hx113_0
                      try clear hx113_1
                      try clear p1
                      try clear p11
                      try clear p110
                      try clear p112
                      try clear p113
                      try clear p2
                      try clear q1
                      try clear q11
                      try clear q110
                      try clear q112
                      try clear q113
                      obtain ⟨x10_3, rfl, HA, HK3, BK111, HB⟩ := hrel
                      cases gk with
                      | zero => exact absurd HA.out (by simp [haymowref07_Right.l1])
                      | succ k3 =>
                        have H := HA.out
                        clear HA
                        simp only [haymowref07_Right.l1] at H
                        by_cases c24 : x10_3 < (((rd_T63 l0 a1).f1).length : Int)
                        · rw [if_pos c24] at H
                          have c24b0 : decide (x10_3 < (((rd_T63 l0 a1).f1).length : Int)) = true := decide_eq_true c24
                          clear c24
                          by_cases c25 : 0 ≤ x10_3
                          · rw [if_pos c25] at H
                            have c25b0 : decide (0 ≤ x10_3) = true := decide_eq_true c25
                            clear c25
                            replace H := Option.bind_eq_some_iff.mp H
                            obtain ⟨t115, A260, H⟩ := H
                            replace H : (if t115 = true then (haymowref07_Right.l1 k3 l0 a2 (wrap64 (x10_3 + 1)) ((rd_T63 l0 a1).f0) ((rd_T63 l0 a1).f1) ((rd_T63 l0 a1).f2) ((rd_T63 l0 a1).f3)) else (some false)) = some r := H
                            have A26 := Aside0.mk A260
                            clear A260
                            by_cases c27 : t115 = true
                            · subst c27
                              have H1 : (haymowref07_Right.l1 k3 l0 a2 (wrap64 (x10_3 + 1)) ((rd_T63 l0 a1).f0) ((rd_T63 l0 a1).f1) ((rd_T63 l0 a1).f2) ((rd_T63 l0 a1).f3)) = some r := by rw [if_pos rfl] at H; exact H
                              clear H
                              have H := H1
                              clear H1
                              have H' := Aside0.mk H
                              clear H
                              have hcz28_0 : wr.cell? ⟨gb111, 0, none⟩ = some (.slice A110_0 ((rd_T63 l0 a1).f0).length c110_0) := (blk_cell BK111.out 0).trans rfl
                              have hcz28_1 : wr.cell? ⟨gb111, 1, none⟩ = some (.slice A110_1 ((rd_T63 l0 a1).f1).length c110_1) := (blk_cell BK111.out 1).trans rfl
                              have hcz28_2 : wr.cell? ⟨gb111, 2, none⟩ = some (.int .i64 ((rd_T63 l0 a1).f2)) := (blk_cell BK111.out 2).trans rfl
                              have hcz28_3 : wr.cell? ⟨gb111, 3, none⟩ = some (.int .i64 ((rd_T63 l0 a1).f3)) := (blk_cell BK111.out 3).trans rfl
                              have hfz28_0 := blk_frozen BK111.out 0
                              have hfz28_1 := blk_frozen BK111.out 1
                              have hfz28_2 := blk_frozen BK111.out 2
                              have hfz28_3 := blk_frozen BK111.out 3
                              have p114 : 0 ≤ (x10_3 : Int) := of_decide_eq_true (by first | (with_reducible assumption) | assumption)
                              have q114 : x10_3 < (((rd_T63 l0 a1).f1).length : Int) := of_decide_eq_true (by first | (with_reducible assumption) | assumption)
                              obtain ⟨ad114, e114, hx114_0⟩ := Kd.at_int HR110_1.out x10_3 p114 q114
                              cases e114
                              replace hx114_0 := (HB.out.cell (World.block_lt_of_cell? w _ hx114_0)).trans hx114_0
                              replace p114 := eq_true p114
                              replace q114 := eq_true q114
                              go_wp2_with (first | ((with_reducible refine gate_callee (f := 13) rfl ?_); refine goesL_ (some 70) rfl rfl Try.func13 (by kernel_rfl) rfl #[.slice (some ad110) l0.length c0, .int .i64 (rd ((rd_T63 l0 a1).f1) x10_3), .int .i64 (wrap64 (a2 + 1))] rfl (by (try simp only [List.map_toArray, List.map_cons, List.map_nil]); first | done | rfl | (simp only [List.length_drop, List.length_take]; rfl)) ?_; (with_reducible refine (ih k3 (by have := HJ5.out; have := HK2.out; have := HK3.out; omega) _ _ l0 (rd ((rd_T63 l0 a1).f1) x10_3) (wrap64 (a2 + 1)) true _ ?side1 ?side2 A26.out).mono ?_); (case side1 => repeat (first | exact (Kd.C_below HR0.out HB.out) | (with_reducible refine Kd.C_alloc ?_ _) | (with_reducible refine Kd.C_drewN ?_ _) | (with_reducible refine Kd.C_drew ?_))); (case side2 => exact HC0.out); rintro e w29 ⟨rfl, hb⟩; refine ⟨_, rfl, ?_⟩; have n0_ := Aside0.mk (blk_below (g := gb111) (o := .cells #[.slice A110_0 ((rd_T63 l0 a1).f0).length c110_0, .slice (some ad114) ((rd_T63 l0 a1).f1).length c110_1, .int .i64 ((rd_T63 l0 a1).f2), .int .i64 ((rd_T63 l0 a1).f3)] 63 (0, 0)) (by (with_reducible repeat (first | refine blk_drewN ?_ _ | refine blk_drew ?_ | refine blk_alloc ?_ _)); exact BK111.out) hb); have n1_ := Aside0.mk (below_step (by repeat (first | (with_reducible first | exact HB.out | apply below_alloc | apply pw_below_drewN | apply below_drew1 | refine below_set ?_ GE111.out) | exact HB.out)) hb); clear BK111; clear HB; have BK111 := n0_; have HB := n1_; clear n0_ n1_; (try clear hb); (try clear hb2); (try clear hk); (try clear hi)))
                              go_roundg k3
                              case measure => have := HJ5.out; have := HK2.out; have := HK3.out; omega
                              case rel => exact ⟨(wrap64 (x10_3 + 1)), (by first | rfl | (simp; done) | (simp [*]; done)), H', ⟨by have := HJ5.out; have := HK2.out; have := HK3.out; omega⟩, ⟨by (with_reducible repeat (first | refine blk_drewN ?_ _ | refine blk_drew ?_ | refine blk_alloc ?_ _)); exact BK111.out⟩, ⟨by repeat (first | (with_reducible first | exact HB.out | apply below_alloc | apply pw_below_drewN | apply below_drew1 | refine below_set ?_ GE111.out) | exact HB.out)⟩⟩
                            · replace c27 := Bool.eq_false_iff.mpr c27
                              subst c27
                              have H1 : (some false) = some r := by rw [if_neg (show ¬ (false = true) by decide)] at H; exact H
                              clear H
                              have H := H1
                              clear H1
                              obtain rfl := Option.some.inj H
                              have hcz30_0 : wr.cell? ⟨gb111, 0, none⟩ = some (.slice A110_0 ((rd_T63 l0 a1).f0).length c110_0) := (blk_cell BK111.out 0).trans rfl
                              have hcz30_1 : wr.cell? ⟨gb111, 1, none⟩ = some (.slice A110_1 ((rd_T63 l0 a1).f1).length c110_1) := (blk_cell BK111.out 1).trans rfl
                              have hcz30_2 : wr.cell? ⟨gb111, 2, none⟩ = some (.int .i64 ((rd_T63 l0 a1).f2)) := (blk_cell BK111.out 2).trans rfl
                              have hcz30_3 : wr.cell? ⟨gb111, 3, none⟩ = some (.int .i64 ((rd_T63 l0 a1).f3)) := (blk_cell BK111.out 3).trans rfl
                              have hfz30_0 := blk_frozen BK111.out 0
                              have hfz30_1 := blk_frozen BK111.out 1
                              have hfz30_2 := blk_frozen BK111.out 2
                              have hfz30_3 := blk_frozen BK111.out 3
                              have p114 : 0 ≤ (x10_3 : Int) := of_decide_eq_true (by first | (with_reducible assumption) | assumption)
                              have q114 : x10_3 < (((rd_T63 l0 a1).f1).length : Int) := of_decide_eq_true (by first | (with_reducible assumption) | assumption)
                              obtain ⟨ad114, e114, hx114_0⟩ := Kd.at_int HR110_1.out x10_3 p114 q114
                              cases e114
                              replace hx114_0 := (HB.out.cell (World.block_lt_of_cell? w _ hx114_0)).trans hx114_0
                              replace p114 := eq_true p114
                              replace q114 := eq_true q114
                              go_wp2_with (first | ((with_reducible refine gate_callee (f := 13) rfl ?_); refine goesL_ (some 70) rfl rfl Try.func13 (by kernel_rfl) rfl #[.slice (some ad110) l0.length c0, .int .i64 (rd ((rd_T63 l0 a1).f1) x10_3), .int .i64 (wrap64 (a2 + 1))] rfl (by (try simp only [List.map_toArray, List.map_cons, List.map_nil]); first | done | rfl | (simp only [List.length_drop, List.length_take]; rfl)) ?_; (with_reducible refine (ih k3 (by have := HJ5.out; have := HK2.out; have := HK3.out; omega) _ _ l0 (rd ((rd_T63 l0 a1).f1) x10_3) (wrap64 (a2 + 1)) false _ ?side1 ?side2 A26.out).mono ?_); (case side1 => repeat (first | exact (Kd.C_below HR0.out HB.out) | (with_reducible refine Kd.C_alloc ?_ _) | (with_reducible refine Kd.C_drewN ?_ _) | (with_reducible refine Kd.C_drew ?_))); (case side2 => exact HC0.out); rintro e w31 ⟨rfl, hb⟩; refine ⟨_, rfl, ?_⟩; have n0_ := Aside0.mk (blk_below (g := gb111) (o := .cells #[.slice A110_0 ((rd_T63 l0 a1).f0).length c110_0, .slice (some ad114) ((rd_T63 l0 a1).f1).length c110_1, .int .i64 ((rd_T63 l0 a1).f2), .int .i64 ((rd_T63 l0 a1).f3)] 63 (0, 0)) (by (with_reducible repeat (first | refine blk_drewN ?_ _ | refine blk_drew ?_ | refine blk_alloc ?_ _)); exact BK111.out) hb); have n1_ := Aside0.mk (below_step (by repeat (first | (with_reducible first | exact HB.out | apply below_alloc | apply pw_below_drewN | apply below_drew1 | refine below_set ?_ GE111.out) | exact HB.out)) hb); clear BK111; clear HB; have BK111 := n0_; have HB := n1_; clear n0_ n1_; (try clear hb); (try clear hb2); (try clear hk); (try clear hi)))
                              go_ret
                              exact ⟨by first | rfl | (simp [errW_none, errW_some] <;> rfl) | (simp [*, errW_none, errW_some] <;> rfl), by repeat (first | (with_reducible first | exact HB.out | apply below_alloc | apply pw_below_drewN | apply below_drew1 | refine below_set ?_ GE111.out) | exact HB.out)⟩
                          · rw [if_neg c25] at H
                            exact absurd H (by simp)
                        · rw [if_neg c24] at H
                          have c24b0 : decide (x10_3 < (((rd_T63 l0 a1).f1).length : Int)) = false := decide_eq_false c24
                          clear c24
                          obtain rfl := Option.some.inj H
                          have hcz32_0 : wr.cell? ⟨gb111, 0, none⟩ = some (.slice A110_0 ((rd_T63 l0 a1).f0).length c110_0) := (blk_cell BK111.out 0).trans rfl
                          have hcz32_1 : wr.cell? ⟨gb111, 1, none⟩ = some (.slice A110_1 ((rd_T63 l0 a1).f1).length c110_1) := (blk_cell BK111.out 1).trans rfl
                          have hcz32_2 : wr.cell? ⟨gb111, 2, none⟩ = some (.int .i64 ((rd_T63 l0 a1).f2)) := (blk_cell BK111.out 2).trans rfl
                          have hcz32_3 : wr.cell? ⟨gb111, 3, none⟩ = some (.int .i64 ((rd_T63 l0 a1).f3)) := (blk_cell BK111.out 3).trans rfl
                          have hfz32_0 := blk_frozen BK111.out 0
                          have hfz32_1 := blk_frozen BK111.out 1
                          have hfz32_2 := blk_frozen BK111.out 2
                          have hfz32_3 := blk_frozen BK111.out 3
                          go_wp2
                          go_ret
                          exact ⟨by first | rfl | (simp [errW_none, errW_some] <;> rfl) | (simp [*, errW_none, errW_some] <;> rfl), by repeat (first | (with_reducible first | exact HB.out | apply below_alloc | apply pw_below_drewN | apply below_drew1 | refine below_set ?_ GE111.out) | exact HB.out)⟩
                  · rw [if_neg c22] at H
                    have c22b0 : (x8_2 == (((rd_T63 l0 a1).f1).length : Int)) = false := beq_eq_false_iff_ne.mpr c22
                    have c22b1 : (x8_2 != (((rd_T63 l0 a1).f1).length : Int)) = true := bne_iff_ne.mpr c22
                    obtain rfl := Option.some.inj H
                    have hcz33_0 : wr.cell? ⟨gb111, 0, none⟩ = some (.slice A110_0 ((rd_T63 l0 a1).f0).length c110_0) := (blk_cell BK111.out 0).trans rfl
                    have hcz33_1 : wr.cell? ⟨gb111, 1, none⟩ = some (.slice A110_1 ((rd_T63 l0 a1).f1).length c110_1) := (blk_cell BK111.out 1).trans rfl
                    have hcz33_2 : wr.cell? ⟨gb111, 2, none⟩ = some (.int .i64 ((rd_T63 l0 a1).f2)) := (blk_cell BK111.out 2).trans rfl
                    have hcz33_3 : wr.cell? ⟨gb111, 3, none⟩ = some (.int .i64 ((rd_T63 l0 a1).f3)) := (blk_cell BK111.out 3).trans rfl
                    have hfz33_0 := blk_frozen BK111.out 0
                    have hfz33_1 := blk_frozen BK111.out 1
                    have hfz33_2 := blk_frozen BK111.out 2
                    have hfz33_3 := blk_frozen BK111.out 3
                    go_wp2
                    go_ret
                    exact ⟨by first | rfl | (simp [errW_none, errW_some] <;> rfl) | (simp [*, errW_none, errW_some] <;> rfl), by repeat (first | (with_reducible first | exact HB.out | apply below_alloc | apply pw_below_drewN | apply below_drew1 | refine below_set ?_ GE111.out) | exact HB.out)⟩
    · rw [if_neg c5] at H
      exact absurd H (by simp)
  · rw [if_neg c4] at H
    exact absurd H (by simp)

end Go.Proofs.Ytiplpkjjplicjaa.H
