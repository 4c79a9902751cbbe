/- What the proof of FrameCounts stands on, part 2: this session's own texts and the words that the kit's print lays, those that are used. -/
import Derived.Test.YtcciejcpijlkfaaZFrameCounts1
import Derived.WalkKit
import Derived.KernelRfl
import Derived.WalkLawsBesides
import Derived.Defers
import Derived.Recover
import Derived.OrdersHeld
import Derived.StillTail
import Derived.Outline
import Derived.Deep.RegionHeld3
-- made by this session's gen.py over the kit's print.py; not trusted: Lean checks it
namespace Go.Proofs.Ytcciejcpijlkfaa.H
open Go.RowKit Go.Proofs.YtcciejcpijlkfaaW.PrintWords Go.Proofs.YtcciejcpijlkfaaW.PrintLast Go.Proofs.YtcciejcpijlkfaaW.PrintMore
attribute [local go_sem] max2_int min2_int max_two min_two max_three min_three max_four min_four   -- for this text's walks alone
set_option linter.unusedVariables false
set_option linter.unusedSimpArgs false

/-! ### valid_shapeOf: function 80 -/
mutual
def valid_shapeOf.j0 : Nat → Int → Bool → Option (Int × Int × Int × Int × Bool)
  | 0, _, _ => none
  | k + 1, x4, x11 => if x11 = true then (some (1, 1, 1, 0, true)) else (if x4 = 9 then (some (0, 0, 0, 5, true)) else (if x4 = 10 then (some (1, 0, 0, 5, true)) else (if x4 = 11 then (some (1, 1, 3, 0, true)) else (if x4 = 12 then (some (0, 0, 0, 0, true)) else (if x4 = 13 then (some (2, 1, 3, 0, true)) else (if x4 = 14 then (some (1, 2, 0, 0, true)) else (if x4 = 15 then (valid_shapeOf.j1 k x4 (x4 == 15)) else (valid_shapeOf.j1 k x4 (x4 == 17)))))))))
def valid_shapeOf.j1 : Nat → Int → Bool → Option (Int × Int × Int × Int × Bool)
  | 0, _, _ => none
  | k + 1, x4, x37 => if x37 = true then (some (1, 0, 0, 0, true)) else (if x4 = 16 then (some (0, 0, 0, 6, true)) else (some (0, 0, 0, 0, false)))
end
def valid_shapeOf.f (k : Nat) (a0 : Int) : Option (Int × Int × Int × Int × Bool) := if a0 = 1 then (some (1, 0, 0, 4, true)) else (if a0 = 2 then (some (1, 1, 0, 0, true)) else (if a0 = 3 then (valid_shapeOf.j0 k a0 (a0 == 3)) else (if a0 = 4 then (valid_shapeOf.j0 k a0 (a0 == 4)) else (if a0 = 5 then (valid_shapeOf.j0 k a0 (a0 == 5)) else (if a0 = 6 then (valid_shapeOf.j0 k a0 (a0 == 6)) else (if a0 = 7 then (valid_shapeOf.j0 k a0 (a0 == 7)) else (valid_shapeOf.j0 k a0 (a0 == 8))))))))
theorem valid_shapeOf.mono_l : ∀ k, (∀ y0 y1, LeO (valid_shapeOf.j0 k y0 y1) (valid_shapeOf.j0 (k + 1) y0 y1)) ∧ (∀ y0 y1, LeO (valid_shapeOf.j1 k y0 y1) (valid_shapeOf.j1 (k + 1) y0 y1))
  | 0 => ⟨fun _ _ r h => by simp [valid_shapeOf.j0] at h, fun _ _ r h => by simp [valid_shapeOf.j1] at h⟩
  | k + 1 => by
    obtain ⟨ih0, ih1⟩ := valid_shapeOf.mono_l k
    refine ⟨?_, ?_⟩
    · intro y0 y1
      unfold valid_shapeOf.j0
      repeat' first
      | (with_reducible exact ih0 _ _)
      | (with_reducible exact ih1 _ _)
      | (with_reducible exact LeO.refl _)
      | (with_reducible exact LeO.none _)
      | (with_reducible refine LeO.ite ?_ ?_)
      | (with_reducible refine LeO.bind ?_ (fun _ => ?_))
      | exact ih0 _ _
      | exact ih1 _ _
      | exact LeO.none _
      | refine LeO.ite ?_ ?_
      | refine LeO.bind ?_ (fun _ => ?_)
    · intro y0 y1
      unfold valid_shapeOf.j1
      repeat' first
      | (with_reducible exact ih0 _ _)
      | (with_reducible exact ih1 _ _)
      | (with_reducible exact LeO.refl _)
      | (with_reducible exact LeO.none _)
      | (with_reducible refine LeO.ite ?_ ?_)
      | (with_reducible refine LeO.bind ?_ (fun _ => ?_))
      | exact ih0 _ _
      | exact ih1 _ _
      | exact LeO.none _
      | refine LeO.ite ?_ ?_
      | refine LeO.bind ?_ (fun _ => ?_)
theorem valid_shapeOf.mono : ∀ a0 k, LeO (valid_shapeOf.f k a0) (valid_shapeOf.f (k + 1) a0) := by
  intro a0 k
  obtain ⟨ih0, ih1⟩ := valid_shapeOf.mono_l k
  unfold valid_shapeOf.f
  repeat' first
      | (with_reducible exact ih0 _ _)
      | (with_reducible exact ih1 _ _)
      | (with_reducible exact LeO.refl _)
      | (with_reducible exact LeO.none _)
      | (with_reducible refine LeO.ite ?_ ?_)
      | (with_reducible refine LeO.bind ?_ (fun _ => ?_))
      | exact ih0 _ _
      | exact ih1 _ _
      | exact LeO.none _
      | refine LeO.ite ?_ ?_
      | refine LeO.bind ?_ (fun _ => ?_)
set_option maxHeartbeats 8000000 in
set_option maxRecDepth 100000 in
theorem valid_shapeOf.calls (k : Nat) (a0 : Int) (r1 : Int) (r2 : Int) (r3 : Int) (r4 : Int) (r5 : Bool) (w : World) (h : valid_shapeOf.f k a0 = some (r1, r2, r3, r4, r5)) :
    Calls Try.prog 80 #[.int .i64 a0] w fun e w' => e = .returned (.tuple #[.agg #[.int .i64 r1, .int .i64 r2, .int .i64 r3, .int .i64 r4], .bool r5]) ∧ Below w.heap.size w w' := by
  have hu185 := Try.underlying185
  have HB := Aside0.mk (Below.refl w.heap.size w)
  have H : (if a0 = 1 then (some (1, 0, 0, 4, true)) else (if a0 = 2 then (some (1, 1, 0, 0, true)) else (if a0 = 3 then (valid_shapeOf.j0 k a0 (a0 == 3)) else (if a0 = 4 then (valid_shapeOf.j0 k a0 (a0 == 4)) else (if a0 = 5 then (valid_shapeOf.j0 k a0 (a0 == 5)) else (if a0 = 6 then (valid_shapeOf.j0 k a0 (a0 == 6)) else (if a0 = 7 then (valid_shapeOf.j0 k a0 (a0 == 7)) else (valid_shapeOf.j0 k a0 (a0 == 8))))))))) = some (r1, r2, r3, r4, r5) := h
  clear h
  by_cases c2 : a0 = 1
  · rw [if_pos c2] at H
    have c2b0 : (a0 == 1) = true := beq_iff_eq.mpr c2
    have c2b1 : (a0 != 1) = false := bne_eq_false_iff_eq.mpr c2
    clear c2
    simp only [Option.some.injEq, Prod.mk.injEq] at H
    obtain ⟨rfl, rfl, rfl, rfl, rfl⟩ := H
    go_enter Try.func80, Try.ntmps80
    go_wp2_with (first | ((with_reducible refine gate_dst (N := 2) rfl ?_); refine box_event ?hg (N := 2) ?hd (cs := #[.int .i64 0, .int .i64 0, .int .i64 0, .int .i64 0]) (t := 185) ?hr ?_; (case hd => rfl); (case hg => rfl); (case hr => first | (go_simp; done) | (go_simp; rfl)); intro gb103 hg w3 hbox hb; have n0_ := Aside0.mk (below_step (by repeat (first | (with_reducible first | exact HB.out | apply below_alloc | apply pw_below_drewN | apply below_drew1) | exact HB.out)) hb); have n1_ := Aside0.mk (hbox); have n2_ := Aside0.mk ((by rw [hg]; exact (below_size (by repeat (first | (with_reducible first | exact HB.out | apply below_alloc | apply pw_below_drewN | apply below_drew1) | exact HB.out))) : w.heap.size ≤ gb103)); have n3_ := Aside0.mk ((by rw [hg]; exact (below_size (by repeat (first | (with_reducible first | exact HB.out | apply below_alloc | apply pw_below_drewN | apply below_drew1) | exact HB.out))) : w.heap.size ≤ gb103)); clear HB; have HB := n0_; have BK103 := n1_; have GW103 := n2_; have GE103 := n3_; clear n0_ n1_ n2_ n3_; clear hb hbox hg; have hcz4_0 : w3.cell? ⟨gb103, 0, none⟩ = some (.int .i64 0) := (blk_cell BK103.out 0).trans rfl; have hcz4_1 : w3.cell? ⟨gb103, 1, none⟩ = some (.int .i64 0) := (blk_cell BK103.out 1).trans rfl; have hcz4_2 : w3.cell? ⟨gb103, 2, none⟩ = some (.int .i64 0) := (blk_cell BK103.out 2).trans rfl; have hcz4_3 : w3.cell? ⟨gb103, 3, none⟩ = some (.int .i64 0) := (blk_cell BK103.out 3).trans rfl; have hfz4_0 := blk_frozen BK103.out 0; have hfz4_1 := blk_frozen BK103.out 1; have hfz4_2 := blk_frozen BK103.out 2; have hfz4_3 := blk_frozen BK103.out 3))
    refine bodyPost_ret (results_ct rfl _ _ gb103 185 #[.int .i64 1, .int .i64 0, .int .i64 0, .int .i64 4] (0, 0) _ rfl (by (with_reducible repeat (first | refine blk_drewN ?_ _ | refine blk_drew ?_ | refine blk_alloc ?_ _)); refine blk_put (cs := #[.int .i64 1, .int .i64 0, .int .i64 0, .int .i64 0]) ?_ 3 _ rfl; (with_reducible repeat (first | refine blk_drewN ?_ _ | refine blk_drew ?_ | refine blk_alloc ?_ _)); refine blk_put (cs := #[.int .i64 1, .int .i64 0, .int .i64 0, .int .i64 0]) ?_ 2 _ rfl; (with_reducible repeat (first | refine blk_drewN ?_ _ | refine blk_drew ?_ | refine blk_alloc ?_ _)); refine blk_put (cs := #[.int .i64 1, .int .i64 0, .int .i64 0, .int .i64 0]) ?_ 1 _ rfl; (with_reducible repeat (first | refine blk_drewN ?_ _ | refine blk_drew ?_ | refine blk_alloc ?_ _)); refine blk_put (cs := #[.int .i64 0, .int .i64 0, .int .i64 0, .int .i64 0]) ?_ 0 _ rfl; (with_reducible repeat (first | refine blk_drewN ?_ _ | refine blk_drew ?_ | refine blk_alloc ?_ _)); exact BK103.out) Try.underlying185 rfl (by kernel_rfl)) rfl ?_
    exact ⟨by first | rfl | (simp [errW_none, errW_some] <;> rfl) | (simp [*, errW_none, errW_some] <;> rfl), by repeat (first | (with_reducible first | exact HB.out | apply below_alloc | apply pw_below_drewN | apply below_drew1 | refine below_set ?_ GE103.out) | exact HB.out)⟩
  · rw [if_neg c2] at H
    have c2b0 : (a0 == 1) = false := beq_eq_false_iff_ne.mpr c2
    have c2b1 : (a0 != 1) = true := bne_iff_ne.mpr c2
    by_cases c5 : a0 = 2
    · rw [if_pos c5] at H
      have c5b0 : (a0 == 2) = true := beq_iff_eq.mpr c5
      have c5b1 : (a0 != 2) = false := bne_eq_false_iff_eq.mpr c5
      clear c5
      simp only [Option.some.injEq, Prod.mk.injEq] at H
      obtain ⟨rfl, rfl, rfl, rfl, rfl⟩ := H
      go_enter Try.func80, Try.ntmps80
      go_wp2_with (first | ((with_reducible refine gate_dst (N := 2) rfl ?_); refine box_event ?hg (N := 2) ?hd (cs := #[.int .i64 0, .int .i64 0, .int .i64 0, .int .i64 0]) (t := 185) ?hr ?_; (case hd => rfl); (case hg => rfl); (case hr => first | (go_simp; done) | (go_simp; rfl)); intro gb103 hg w6 hbox hb; have n0_ := Aside0.mk (below_step (by repeat (first | (with_reducible first | exact HB.out | apply below_alloc | apply pw_below_drewN | apply below_drew1) | exact HB.out)) hb); have n1_ := Aside0.mk (hbox); have n2_ := Aside0.mk ((by rw [hg]; exact (below_size (by repeat (first | (with_reducible first | exact HB.out | apply below_alloc | apply pw_below_drewN | apply below_drew1) | exact HB.out))) : w.heap.size ≤ gb103)); have n3_ := Aside0.mk ((by rw [hg]; exact (below_size (by repeat (first | (with_reducible first | exact HB.out | apply below_alloc | apply pw_below_drewN | apply below_drew1) | exact HB.out))) : w.heap.size ≤ gb103)); clear HB; have HB := n0_; have BK103 := n1_; have GW103 := n2_; have GE103 := n3_; clear n0_ n1_ n2_ n3_; clear hb hbox hg; have hcz7_0 : w6.cell? ⟨gb103, 0, none⟩ = some (.int .i64 0) := (blk_cell BK103.out 0).trans rfl; have hcz7_1 : w6.cell? ⟨gb103, 1, none⟩ = some (.int .i64 0) := (blk_cell BK103.out 1).trans rfl; have hcz7_2 : w6.cell? ⟨gb103, 2, none⟩ = some (.int .i64 0) := (blk_cell BK103.out 2).trans rfl; have hcz7_3 : w6.cell? ⟨gb103, 3, none⟩ = some (.int .i64 0) := (blk_cell BK103.out 3).trans rfl; have hfz7_0 := blk_frozen BK103.out 0; have hfz7_1 := blk_frozen BK103.out 1; have hfz7_2 := blk_frozen BK103.out 2; have hfz7_3 := blk_frozen BK103.out 3))
      refine bodyPost_ret (results_ct rfl _ _ gb103 185 #[.int .i64 1, .int .i64 1, .int .i64 0, .int .i64 0] (0, 0) _ rfl (by (with_reducible repeat (first | refine blk_drewN ?_ _ | refine blk_drew ?_ | refine blk_alloc ?_ _)); refine blk_put (cs := #[.int .i64 1, .int .i64 1, .int .i64 0, .int .i64 0]) ?_ 3 _ rfl; (with_reducible repeat (first | refine blk_drewN ?_ _ | refine blk_drew ?_ | refine blk_alloc ?_ _)); refine blk_put (cs := #[.int .i64 1, .int .i64 1, .int .i64 0, .int .i64 0]) ?_ 2 _ rfl; (with_reducible repeat (first | refine blk_drewN ?_ _ | refine blk_drew ?_ | refine blk_alloc ?_ _)); refine blk_put (cs := #[.int .i64 1, .int .i64 0, .int .i64 0, .int .i64 0]) ?_ 1 _ rfl; (with_reducible repeat (first | refine blk_drewN ?_ _ | refine blk_drew ?_ | refine blk_alloc ?_ _)); refine blk_put (cs := #[.int .i64 0, .int .i64 0, .int .i64 0, .int .i64 0]) ?_ 0 _ rfl; (with_reducible repeat (first | refine blk_drewN ?_ _ | refine blk_drew ?_ | refine blk_alloc ?_ _)); exact BK103.out) Try.underlying185 rfl (by kernel_rfl)) rfl ?_
      exact ⟨by first | rfl | (simp [errW_none, errW_some] <;> rfl) | (simp [*, errW_none, errW_some] <;> rfl), by repeat (first | (with_reducible first | exact HB.out | apply below_alloc | apply pw_below_drewN | apply below_drew1 | refine below_set ?_ GE103.out) | exact HB.out)⟩
    · rw [if_neg c5] at H
      have c5b0 : (a0 == 2) = false := beq_eq_false_iff_ne.mpr c5
      have c5b1 : (a0 != 2) = true := bne_iff_ne.mpr c5
      have HC8 := Aside0.mk H
      clear H
      go_enter Try.func80, Try.ntmps80
      go_upto_if 11 with (first | ((with_reducible refine gate_dst (N := 2) rfl ?_); refine box_event ?hg (N := 2) ?hd (cs := #[.int .i64 0, .int .i64 0, .int .i64 0, .int .i64 0]) (t := 185) ?hr ?_; (case hd => rfl); (case hg => rfl); (case hr => first | (go_simp; done) | (go_simp; rfl)); intro gb103 hg w9 hbox hb; have n0_ := Aside0.mk (below_step (by repeat (first | (with_reducible first | exact HB.out | apply below_alloc | apply pw_below_drewN | apply below_drew1) | exact HB.out)) hb); have n1_ := Aside0.mk (hbox); have n2_ := Aside0.mk ((by rw [hg]; exact (below_size (by repeat (first | (with_reducible first | exact HB.out | apply below_alloc | apply pw_below_drewN | apply below_drew1) | exact HB.out))) : w.heap.size ≤ gb103)); have n3_ := Aside0.mk ((by rw [hg]; exact (below_size (by repeat (first | (with_reducible first | exact HB.out | apply below_alloc | apply pw_below_drewN | apply below_drew1) | exact HB.out))) : w.heap.size ≤ gb103)); clear HB; have HB := n0_; have BK103 := n1_; have GW103 := n2_; have GE103 := n3_; clear n0_ n1_ n2_ n3_; clear hb hbox hg))
      (try simp only [Act.put, List.setIfInBounds_toArray, List.set_cons_zero, List.set_cons_succ])
      go_cut [11] (fun v11 wc => ∃ (kq : Nat) (x11_7 : Bool), v11 = .bool x11_7 ∧ Aside0 (valid_shapeOf.j0 kq a0 x11_7 = some (r1, r2, r3, r4, r5)) ∧ Aside0 (kq ≤ k) ∧ Aside0 (wc.heap[gb103]? = some (.cells #[.int .i64 0, .int .i64 0, .int .i64 0, .int .i64 0] 185 (0, 0))) ∧ Aside0 (Below w.heap.size w wc))
      case first =>
        have H := HC8.out
        clear HC8
        by_cases c10 : a0 = 3
        · rw [if_pos c10] at H
          have c10b0 : (a0 == 3) = true := beq_iff_eq.mpr c10
          have c10b1 : (a0 != 3) = false := bne_eq_false_iff_eq.mpr c10
          clear c10
          (first | rw [c10b0] | (simp only [i64_w, i32_w]; rw [c10b0]) | skip)
          have H' := Aside0.mk H
          clear H
          go_wp2
          go_meet
          case rel => exact ⟨_, ((a0 == 3)), (by first | rfl | (simp; done) | (simp [*]; done)), H', ⟨by first | omega | exact Nat.le_refl _⟩, ⟨by (with_reducible repeat (first | refine blk_drewN ?_ _ | refine blk_drew ?_ | refine blk_alloc ?_ _)); exact BK103.out⟩, ⟨by repeat (first | (with_reducible first | exact HB.out | apply below_alloc | apply pw_below_drewN | apply below_drew1 | refine below_set ?_ GE103.out) | exact HB.out)⟩⟩
        · rw [if_neg c10] at H
          have c10b0 : (a0 == 3) = false := beq_eq_false_iff_ne.mpr c10
          have c10b1 : (a0 != 3) = true := bne_iff_ne.mpr c10
          (first | rw [c10b0] | (simp only [i64_w, i32_w]; rw [c10b0]) | skip)
          by_cases c11 : a0 = 4
          · rw [if_pos c11] at H
            have c11b0 : (a0 == 4) = true := beq_iff_eq.mpr c11
            have c11b1 : (a0 != 4) = false := bne_eq_false_iff_eq.mpr c11
            clear c11
            have H' := Aside0.mk H
            clear H
            go_wp2
            go_meet
            case rel => exact ⟨_, ((a0 == 4)), (by first | rfl | (simp; done) | (simp [*]; done)), H', ⟨by first | omega | exact Nat.le_refl _⟩, ⟨by (with_reducible repeat (first | refine blk_drewN ?_ _ | refine blk_drew ?_ | refine blk_alloc ?_ _)); exact BK103.out⟩, ⟨by repeat (first | (with_reducible first | exact HB.out | apply below_alloc | apply pw_below_drewN | apply below_drew1 | refine below_set ?_ GE103.out) | exact HB.out)⟩⟩
          · rw [if_neg c11] at H
            have c11b0 : (a0 == 4) = false := beq_eq_false_iff_ne.mpr c11
            have c11b1 : (a0 != 4) = true := bne_iff_ne.mpr c11
            by_cases c12 : a0 = 5
            · rw [if_pos c12] at H
              have c12b0 : (a0 == 5) = true := beq_iff_eq.mpr c12
              have c12b1 : (a0 != 5) = false := bne_eq_false_iff_eq.mpr c12
              clear c12
              have H' := Aside0.mk H
              clear H
              go_wp2
              go_meet
              case rel => exact ⟨_, ((a0 == 5)), (by first | rfl | (simp; done) | (simp [*]; done)), H', ⟨by first | omega | exact Nat.le_refl _⟩, ⟨by (with_reducible repeat (first | refine blk_drewN ?_ _ | refine blk_drew ?_ | refine blk_alloc ?_ _)); exact BK103.out⟩, ⟨by repeat (first | (with_reducible first | exact HB.out | apply below_alloc | apply pw_below_drewN | apply below_drew1 | refine below_set ?_ GE103.out) | exact HB.out)⟩⟩
            · rw [if_neg c12] at H
              have c12b0 : (a0 == 5) = false := beq_eq_false_iff_ne.mpr c12
              have c12b1 : (a0 != 5) = true := bne_iff_ne.mpr c12
              by_cases c13 : a0 = 6
              · rw [if_pos c13] at H
                have c13b0 : (a0 == 6) = true := beq_iff_eq.mpr c13
                have c13b1 : (a0 != 6) = false := bne_eq_false_iff_eq.mpr c13
                clear c13
                have H' := Aside0.mk H
                clear H
                go_wp2
                go_meet
                case rel => exact ⟨_, ((a0 == 6)), (by first | rfl | (simp; done) | (simp [*]; done)), H', ⟨by first | omega | exact Nat.le_refl _⟩, ⟨by (with_reducible repeat (first | refine blk_drewN ?_ _ | refine blk_drew ?_ | refine blk_alloc ?_ _)); exact BK103.out⟩, ⟨by repeat (first | (with_reducible first | exact HB.out | apply below_alloc | apply pw_below_drewN | apply below_drew1 | refine below_set ?_ GE103.out) | exact HB.out)⟩⟩
              · rw [if_neg c13] at H
                have c13b0 : (a0 == 6) = false := beq_eq_false_iff_ne.mpr c13
                have c13b1 : (a0 != 6) = true := bne_iff_ne.mpr c13
                by_cases c14 : a0 = 7
                · rw [if_pos c14] at H
                  have c14b0 : (a0 == 7) = true := beq_iff_eq.mpr c14
                  have c14b1 : (a0 != 7) = false := bne_eq_false_iff_eq.mpr c14
                  clear c14
                  have H' := Aside0.mk H
                  clear H
                  go_wp2
                  go_meet
                  case rel => exact ⟨_, ((a0 == 7)), (by first | rfl | (simp; done) | (simp [*]; done)), H', ⟨by first | omega | exact Nat.le_refl _⟩, ⟨by (with_reducible repeat (first | refine blk_drewN ?_ _ | refine blk_drew ?_ | refine blk_alloc ?_ _)); exact BK103.out⟩, ⟨by repeat (first | (with_reducible first | exact HB.out | apply below_alloc | apply pw_below_drewN | apply below_drew1 | refine below_set ?_ GE103.out) | exact HB.out)⟩⟩
                · rw [if_neg c14] at H
                  have c14b0 : (a0 == 7) = false := beq_eq_false_iff_ne.mpr c14
                  have c14b1 : (a0 != 7) = true := bne_iff_ne.mpr c14
                  have H' := Aside0.mk H
                  clear H
                  go_wp2
                  go_meet
                  case rel => exact ⟨_, ((a0 == 8)), (by first | rfl | (simp; done) | (simp [*]; done)), H', ⟨by first | omega | exact Nat.le_refl _⟩, ⟨by (with_reducible repeat (first | refine blk_drewN ?_ _ | refine blk_drew ?_ | refine blk_alloc ?_ _)); exact BK103.out⟩, ⟨by repeat (first | (with_reducible first | exact HB.out | apply below_alloc | apply pw_below_drewN | apply below_drew1 | refine below_set ?_ GE103.out) | exact HB.out)⟩⟩
      case rest =>
        clear HC8
        try clear c1
        try clear c2
        try clear c2b0
        try clear c2b1
        try clear p2
        try clear c5
        try clear c5b0
        try clear c5b1
        try clear c8
        try clear c10
        try clear c10b0
        try clear c10b1
        try clear c11
        try clear c11b0
        try clear c11b1
        try clear c12
        try clear c12b0
        try clear c12b1
        try clear c13
        try clear c13b0
        try clear c13b1
        try clear c14
        try clear c14b0
        try clear c14b1
        try clear hcz4_0
        try clear hcz4_1
        try clear hcz4_2
        try clear hcz4_3
        try clear hcz7_0
        try clear hcz7_1
        try clear hcz7_2
        try clear hcz7_3
        try clear hfz4_0
        try clear hfz4_1
        try clear hfz4_2
        try clear hfz4_3
        try clear hfz7_0
        try clear hfz7_1
        try clear hfz7_2
        try clear hfz7_3
        obtain ⟨kq, x11_7, rfl, HA, HJ7, BK103, HB⟩ := hcut
        cases kq with
        | zero => exact absurd HA.out (by simp [valid_shapeOf.j0])
        | succ kj7 =>
          have H := HA.out
          clear HA
          simp only [valid_shapeOf.j0] at H
          by_cases c15 : x11_7 = true
          · subst c15
            have H1 : (some (1, 1, 1, 0, true)) = some (r1, r2, r3, r4, r5) := by rw [if_pos rfl] at H; exact H
            clear H
            have H := H1
            clear H1
            simp only [Option.some.injEq, Prod.mk.injEq] at H
            obtain ⟨rfl, rfl, rfl, rfl, rfl⟩ := H
            have hcz16_0 : wc.cell? ⟨gb103, 0, none⟩ = some (.int .i64 0) := (blk_cell BK103.out 0).trans rfl
            have hcz16_1 : wc.cell? ⟨gb103, 1, none⟩ = some (.int .i64 0) := (blk_cell BK103.out 1).trans rfl
            have hcz16_2 : wc.cell? ⟨gb103, 2, none⟩ = some (.int .i64 0) := (blk_cell BK103.out 2).trans rfl
            have hcz16_3 : wc.cell? ⟨gb103, 3, none⟩ = some (.int .i64 0) := (blk_cell BK103.out 3).trans rfl
            have hfz16_0 := blk_frozen BK103.out 0
            have hfz16_1 := blk_frozen BK103.out 1
            have hfz16_2 := blk_frozen BK103.out 2
            have hfz16_3 := blk_frozen BK103.out 3
            go_wp2
            refine bodyPost_ret (results_ct rfl _ _ gb103 185 #[.int .i64 1, .int .i64 1, .int .i64 1, .int .i64 0] (0, 0) _ rfl (by (with_reducible repeat (first | refine blk_drewN ?_ _ | refine blk_drew ?_ | refine blk_alloc ?_ _)); refine blk_put (cs := #[.int .i64 1, .int .i64 1, .int .i64 1, .int .i64 0]) ?_ 3 _ rfl; (with_reducible repeat (first | refine blk_drewN ?_ _ | refine blk_drew ?_ | refine blk_alloc ?_ _)); refine blk_put (cs := #[.int .i64 1, .int .i64 1, .int .i64 0, .int .i64 0]) ?_ 2 _ rfl; (with_reducible repeat (first | refine blk_drewN ?_ _ | refine blk_drew ?_ | refine blk_alloc ?_ _)); refine blk_put (cs := #[.int .i64 1, .int .i64 0, .int .i64 0, .int .i64 0]) ?_ 1 _ rfl; (with_reducible repeat (first | refine blk_drewN ?_ _ | refine blk_drew ?_ | refine blk_alloc ?_ _)); refine blk_put (cs := #[.int .i64 0, .int .i64 0, .int .i64 0, .int .i64 0]) ?_ 0 _ rfl; (with_reducible repeat (first | refine blk_drewN ?_ _ | refine blk_drew ?_ | refine blk_alloc ?_ _)); exact BK103.out) Try.underlying185 rfl (by kernel_rfl)) rfl ?_
            exact ⟨by first | rfl | (simp [errW_none, errW_some] <;> rfl) | (simp [*, errW_none, errW_some] <;> rfl), by repeat (first | (with_reducible first | exact HB.out | apply below_alloc | apply pw_below_drewN | apply below_drew1 | refine below_set ?_ GE103.out) | exact HB.out)⟩
          · replace c15 := Bool.eq_false_iff.mpr c15
            subst c15
            have H1 : (if a0 = 9 then (some (0, 0, 0, 5, true)) else (if a0 = 10 then (some (1, 0, 0, 5, true)) else (if a0 = 11 then (some (1, 1, 3, 0, true)) else (if a0 = 12 then (some (0, 0, 0, 0, true)) else (if a0 = 13 then (some (2, 1, 3, 0, true)) else (if a0 = 14 then (some (1, 2, 0, 0, true)) else (if a0 = 15 then (valid_shapeOf.j1 kj7 a0 (a0 == 15)) else (valid_shapeOf.j1 kj7 a0 (a0 == 17))))))))) = some (r1, r2, r3, r4, r5) := by rw [if_neg (show ¬ (false = true) by decide)] at H; exact H
            clear H
            have H := H1
            clear H1
            by_cases c17 : a0 = 9
            · rw [if_pos c17] at H
              have c17b0 : (a0 == 9) = true := beq_iff_eq.mpr c17
              have c17b1 : (a0 != 9) = false := bne_eq_false_iff_eq.mpr c17
              clear c17
              simp only [Option.some.injEq, Prod.mk.injEq] at H
              obtain ⟨rfl, rfl, rfl, rfl, rfl⟩ := H
              have hcz18_0 : wc.cell? ⟨gb103, 0, none⟩ = some (.int .i64 0) := (blk_cell BK103.out 0).trans rfl
              have hcz18_1 : wc.cell? ⟨gb103, 1, none⟩ = some (.int .i64 0) := (blk_cell BK103.out 1).trans rfl
              have hcz18_2 : wc.cell? ⟨gb103, 2, none⟩ = some (.int .i64 0) := (blk_cell BK103.out 2).trans rfl
              have hcz18_3 : wc.cell? ⟨gb103, 3, none⟩ = some (.int .i64 0) := (blk_cell BK103.out 3).trans rfl
              have hfz18_0 := blk_frozen BK103.out 0
              have hfz18_1 := blk_frozen BK103.out 1
              have hfz18_2 := blk_frozen BK103.out 2
              have hfz18_3 := blk_frozen BK103.out 3
              go_wp2
              refine bodyPost_ret (results_ct rfl _ _ gb103 185 #[.int .i64 0, .int .i64 0, .int .i64 0, .int .i64 5] (0, 0) _ rfl (by (with_reducible repeat (first | refine blk_drewN ?_ _ | refine blk_drew ?_ | refine blk_alloc ?_ _)); refine blk_put (cs := #[.int .i64 0, .int .i64 0, .int .i64 0, .int .i64 0]) ?_ 3 _ rfl; (with_reducible repeat (first | refine blk_drewN ?_ _ | refine blk_drew ?_ | refine blk_alloc ?_ _)); refine blk_put (cs := #[.int .i64 0, .int .i64 0, .int .i64 0, .int .i64 0]) ?_ 2 _ rfl; (with_reducible repeat (first | refine blk_drewN ?_ _ | refine blk_drew ?_ | refine blk_alloc ?_ _)); refine blk_put (cs := #[.int .i64 0, .int .i64 0, .int .i64 0, .int .i64 0]) ?_ 1 _ rfl; (with_reducible repeat (first | refine blk_drewN ?_ _ | refine blk_drew ?_ | refine blk_alloc ?_ _)); refine blk_put (cs := #[.int .i64 0, .int .i64 0, .int .i64 0, .int .i64 0]) ?_ 0 _ rfl; (with_reducible repeat (first | refine blk_drewN ?_ _ | refine blk_drew ?_ | refine blk_alloc ?_ _)); exact BK103.out) Try.underlying185 rfl (by kernel_rfl)) rfl ?_
              exact ⟨by first | rfl | (simp [errW_none, errW_some] <;> rfl) | (simp [*, errW_none, errW_some] <;> rfl), by repeat (first | (with_reducible first | exact HB.out | apply below_alloc | apply pw_below_drewN | apply below_drew1 | refine below_set ?_ GE103.out) | exact HB.out)⟩
            · rw [if_neg c17] at H
              have c17b0 : (a0 == 9) = false := beq_eq_false_iff_ne.mpr c17
              have c17b1 : (a0 != 9) = true := bne_iff_ne.mpr c17
              by_cases c19 : a0 = 10
              · rw [if_pos c19] at H
                have c19b0 : (a0 == 10) = true := beq_iff_eq.mpr c19
                have c19b1 : (a0 != 10) = false := bne_eq_false_iff_eq.mpr c19
                clear c19
                simp only [Option.some.injEq, Prod.mk.injEq] at H
                obtain ⟨rfl, rfl, rfl, rfl, rfl⟩ := H
                have hcz20_0 : wc.cell? ⟨gb103, 0, none⟩ = some (.int .i64 0) := (blk_cell BK103.out 0).trans rfl
                have hcz20_1 : wc.cell? ⟨gb103, 1, none⟩ = some (.int .i64 0) := (blk_cell BK103.out 1).trans rfl
                have hcz20_2 : wc.cell? ⟨gb103, 2, none⟩ = some (.int .i64 0) := (blk_cell BK103.out 2).trans rfl
                have hcz20_3 : wc.cell? ⟨gb103, 3, none⟩ = some (.int .i64 0) := (blk_cell BK103.out 3).trans rfl
                have hfz20_0 := blk_frozen BK103.out 0
                have hfz20_1 := blk_frozen BK103.out 1
                have hfz20_2 := blk_frozen BK103.out 2
                have hfz20_3 := blk_frozen BK103.out 3
                go_wp2
                refine bodyPost_ret (results_ct rfl _ _ gb103 185 #[.int .i64 1, .int .i64 0, .int .i64 0, .int .i64 5] (0, 0) _ rfl (by (with_reducible repeat (first | refine blk_drewN ?_ _ | refine blk_drew ?_ | refine blk_alloc ?_ _)); refine blk_put (cs := #[.int .i64 1, .int .i64 0, .int .i64 0, .int .i64 0]) ?_ 3 _ rfl; (with_reducible repeat (first | refine blk_drewN ?_ _ | refine blk_drew ?_ | refine blk_alloc ?_ _)); refine blk_put (cs := #[.int .i64 1, .int .i64 0, .int .i64 0, .int .i64 0]) ?_ 2 _ rfl; (with_reducible repeat (first | refine blk_drewN ?_ _ | refine blk_drew ?_ | refine blk_alloc ?_ _)); refine blk_put (cs := #[.int .i64 1, .int .i64 0, .int .i64 0, .int .i64 0]) ?_ 1 _ rfl; (with_reducible repeat (first | refine blk_drewN ?_ _ | refine blk_drew ?_ | refine blk_alloc ?_ _)); refine blk_put (cs := #[.int .i64 0, .int .i64 0, .int .i64 0, .int .i64 0]) ?_ 0 _ rfl; (with_reducible repeat (first | refine blk_drewN ?_ _ | refine blk_drew ?_ | refine blk_alloc ?_ _)); exact BK103.out) Try.underlying185 rfl (by kernel_rfl)) rfl ?_
                exact ⟨by first | rfl | (simp [errW_none, errW_some] <;> rfl) | (simp [*, errW_none, errW_some] <;> rfl), by repeat (first | (with_reducible first | exact HB.out | apply below_alloc | apply pw_below_drewN | apply below_drew1 | refine below_set ?_ GE103.out) | exact HB.out)⟩
              · rw [if_neg c19] at H
                have c19b0 : (a0 == 10) = false := beq_eq_false_iff_ne.mpr c19
                have c19b1 : (a0 != 10) = true := bne_iff_ne.mpr c19
                by_cases c21 : a0 = 11
                · rw [if_pos c21] at H
                  have c21b0 : (a0 == 11) = true := beq_iff_eq.mpr c21
                  have c21b1 : (a0 != 11) = false := bne_eq_false_iff_eq.mpr c21
                  clear c21
                  simp only [Option.some.injEq, Prod.mk.injEq] at H
                  obtain ⟨rfl, rfl, rfl, rfl, rfl⟩ := H
                  have hcz22_0 : wc.cell? ⟨gb103, 0, none⟩ = some (.int .i64 0) := (blk_cell BK103.out 0).trans rfl
                  have hcz22_1 : wc.cell? ⟨gb103, 1, none⟩ = some (.int .i64 0) := (blk_cell BK103.out 1).trans rfl
                  have hcz22_2 : wc.cell? ⟨gb103, 2, none⟩ = some (.int .i64 0) := (blk_cell BK103.out 2).trans rfl
                  have hcz22_3 : wc.cell? ⟨gb103, 3, none⟩ = some (.int .i64 0) := (blk_cell BK103.out 3).trans rfl
                  have hfz22_0 := blk_frozen BK103.out 0
                  have hfz22_1 := blk_frozen BK103.out 1
                  have hfz22_2 := blk_frozen BK103.out 2
                  have hfz22_3 := blk_frozen BK103.out 3
                  go_wp2
                  refine bodyPost_ret (results_ct rfl _ _ gb103 185 #[.int .i64 1, .int .i64 1, .int .i64 3, .int .i64 0] (0, 0) _ rfl (by (with_reducible repeat (first | refine blk_drewN ?_ _ | refine blk_drew ?_ | refine blk_alloc ?_ _)); refine blk_put (cs := #[.int .i64 1, .int .i64 1, .int .i64 3, .int .i64 0]) ?_ 3 _ rfl; (with_reducible repeat (first | refine blk_drewN ?_ _ | refine blk_drew ?_ | refine blk_alloc ?_ _)); refine blk_put (cs := #[.int .i64 1, .int .i64 1, .int .i64 0, .int .i64 0]) ?_ 2 _ rfl; (with_reducible repeat (first | refine blk_drewN ?_ _ | refine blk_drew ?_ | refine blk_alloc ?_ _)); refine blk_put (cs := #[.int .i64 1, .int .i64 0, .int .i64 0, .int .i64 0]) ?_ 1 _ rfl; (with_reducible repeat (first | refine blk_drewN ?_ _ | refine blk_drew ?_ | refine blk_alloc ?_ _)); refine blk_put (cs := #[.int .i64 0, .int .i64 0, .int .i64 0, .int .i64 0]) ?_ 0 _ rfl; (with_reducible repeat (first | refine blk_drewN ?_ _ | refine blk_drew ?_ | refine blk_alloc ?_ _)); exact BK103.out) Try.underlying185 rfl (by kernel_rfl)) rfl ?_
                  exact ⟨by first | rfl | (simp [errW_none, errW_some] <;> rfl) | (simp [*, errW_none, errW_some] <;> rfl), by repeat (first | (with_reducible first | exact HB.out | apply below_alloc | apply pw_below_drewN | apply below_drew1 | refine below_set ?_ GE103.out) | exact HB.out)⟩
                · rw [if_neg c21] at H
                  have c21b0 : (a0 == 11) = false := beq_eq_false_iff_ne.mpr c21
                  have c21b1 : (a0 != 11) = true := bne_iff_ne.mpr c21
                  by_cases c23 : a0 = 12
                  · rw [if_pos c23] at H
                    have c23b0 : (a0 == 12) = true := beq_iff_eq.mpr c23
                    have c23b1 : (a0 != 12) = false := bne_eq_false_iff_eq.mpr c23
                    clear c23
                    simp only [Option.some.injEq, Prod.mk.injEq] at H
                    obtain ⟨rfl, rfl, rfl, rfl, rfl⟩ := H
                    have hcz24_0 : wc.cell? ⟨gb103, 0, none⟩ = some (.int .i64 0) := (blk_cell BK103.out 0).trans rfl
                    have hcz24_1 : wc.cell? ⟨gb103, 1, none⟩ = some (.int .i64 0) := (blk_cell BK103.out 1).trans rfl
                    have hcz24_2 : wc.cell? ⟨gb103, 2, none⟩ = some (.int .i64 0) := (blk_cell BK103.out 2).trans rfl
                    have hcz24_3 : wc.cell? ⟨gb103, 3, none⟩ = some (.int .i64 0) := (blk_cell BK103.out 3).trans rfl
                    have hfz24_0 := blk_frozen BK103.out 0
                    have hfz24_1 := blk_frozen BK103.out 1
                    have hfz24_2 := blk_frozen BK103.out 2
                    have hfz24_3 := blk_frozen BK103.out 3
                    go_wp2
                    refine bodyPost_ret (results_ct rfl _ _ gb103 185 #[.int .i64 0, .int .i64 0, .int .i64 0, .int .i64 0] (0, 0) _ rfl (by (with_reducible repeat (first | refine blk_drewN ?_ _ | refine blk_drew ?_ | refine blk_alloc ?_ _)); refine blk_put (cs := #[.int .i64 0, .int .i64 0, .int .i64 0, .int .i64 0]) ?_ 3 _ rfl; (with_reducible repeat (first | refine blk_drewN ?_ _ | refine blk_drew ?_ | refine blk_alloc ?_ _)); refine blk_put (cs := #[.int .i64 0, .int .i64 0, .int .i64 0, .int .i64 0]) ?_ 2 _ rfl; (with_reducible repeat (first | refine blk_drewN ?_ _ | refine blk_drew ?_ | refine blk_alloc ?_ _)); refine blk_put (cs := #[.int .i64 0, .int .i64 0, .int .i64 0, .int .i64 0]) ?_ 1 _ rfl; (with_reducible repeat (first | refine blk_drewN ?_ _ | refine blk_drew ?_ | refine blk_alloc ?_ _)); refine blk_put (cs := #[.int .i64 0, .int .i64 0, .int .i64 0, .int .i64 0]) ?_ 0 _ rfl; (with_reducible repeat (first | refine blk_drewN ?_ _ | refine blk_drew ?_ | refine blk_alloc ?_ _)); exact BK103.out) Try.underlying185 rfl (by kernel_rfl)) rfl ?_
                    exact ⟨by first | rfl | (simp [errW_none, errW_some] <;> rfl) | (simp [*, errW_none, errW_some] <;> rfl), by repeat (first | (with_reducible first | exact HB.out | apply below_alloc | apply pw_below_drewN | apply below_drew1 | refine below_set ?_ GE103.out) | exact HB.out)⟩
                  · rw [if_neg c23] at H
                    have c23b0 : (a0 == 12) = false := beq_eq_false_iff_ne.mpr c23
                    have c23b1 : (a0 != 12) = true := bne_iff_ne.mpr c23
                    by_cases c25 : a0 = 13
                    · rw [if_pos c25] at H
                      have c25b0 : (a0 == 13) = true := beq_iff_eq.mpr c25
                      have c25b1 : (a0 != 13) = false := bne_eq_false_iff_eq.mpr c25
                      clear c25
                      simp only [Option.some.injEq, Prod.mk.injEq] at H
                      obtain ⟨rfl, rfl, rfl, rfl, rfl⟩ := H
                      have hcz26_0 : wc.cell? ⟨gb103, 0, none⟩ = some (.int .i64 0) := (blk_cell BK103.out 0).trans rfl
                      have hcz26_1 : wc.cell? ⟨gb103, 1, none⟩ = some (.int .i64 0) := (blk_cell BK103.out 1).trans rfl
                      have hcz26_2 : wc.cell? ⟨gb103, 2, none⟩ = some (.int .i64 0) := (blk_cell BK103.out 2).trans rfl
                      have hcz26_3 : wc.cell? ⟨gb103, 3, none⟩ = some (.int .i64 0) := (blk_cell BK103.out 3).trans rfl
                      have hfz26_0 := blk_frozen BK103.out 0
                      have hfz26_1 := blk_frozen BK103.out 1
                      have hfz26_2 := blk_frozen BK103.out 2
                      have hfz26_3 := blk_frozen BK103.out 3
                      go_wp2
                      refine bodyPost_ret (results_ct rfl _ _ gb103 185 #[.int .i64 2, .int .i64 1, .int .i64 3, .int .i64 0] (0, 0) _ rfl (by (with_reducible repeat (first | refine blk_drewN ?_ _ | refine blk_drew ?_ | refine blk_alloc ?_ _)); refine blk_put (cs := #[.int .i64 2, .int .i64 1, .int .i64 3, .int .i64 0]) ?_ 3 _ rfl; (with_reducible repeat (first | refine blk_drewN ?_ _ | refine blk_drew ?_ | refine blk_alloc ?_ _)); refine blk_put (cs := #[.int .i64 2, .int .i64 1, .int .i64 0, .int .i64 0]) ?_ 2 _ rfl; (with_reducible repeat (first | refine blk_drewN ?_ _ | refine blk_drew ?_ | refine blk_alloc ?_ _)); refine blk_put (cs := #[.int .i64 2, .int .i64 0, .int .i64 0, .int .i64 0]) ?_ 1 _ rfl; (with_reducible repeat (first | refine blk_drewN ?_ _ | refine blk_drew ?_ | refine blk_alloc ?_ _)); refine blk_put (cs := #[.int .i64 0, .int .i64 0, .int .i64 0, .int .i64 0]) ?_ 0 _ rfl; (with_reducible repeat (first | refine blk_drewN ?_ _ | refine blk_drew ?_ | refine blk_alloc ?_ _)); exact BK103.out) Try.underlying185 rfl (by kernel_rfl)) rfl ?_
                      exact ⟨by first | rfl | (simp [errW_none, errW_some] <;> rfl) | (simp [*, errW_none, errW_some] <;> rfl), by repeat (first | (with_reducible first | exact HB.out | apply below_alloc | apply pw_below_drewN | apply below_drew1 | refine below_set ?_ GE103.out) | exact HB.out)⟩
                    · rw [if_neg c25] at H
                      have c25b0 : (a0 == 13) = false := beq_eq_false_iff_ne.mpr c25
                      have c25b1 : (a0 != 13) = true := bne_iff_ne.mpr c25
                      by_cases c27 : a0 = 14
                      · rw [if_pos c27] at H
                        have c27b0 : (a0 == 14) = true := beq_iff_eq.mpr c27
                        have c27b1 : (a0 != 14) = false := bne_eq_false_iff_eq.mpr c27
                        clear c27
                        simp only [Option.some.injEq, Prod.mk.injEq] at H
                        obtain ⟨rfl, rfl, rfl, rfl, rfl⟩ := H
                        have hcz28_0 : wc.cell? ⟨gb103, 0, none⟩ = some (.int .i64 0) := (blk_cell BK103.out 0).trans rfl
                        have hcz28_1 : wc.cell? ⟨gb103, 1, none⟩ = some (.int .i64 0) := (blk_cell BK103.out 1).trans rfl
                        have hcz28_2 : wc.cell? ⟨gb103, 2, none⟩ = some (.int .i64 0) := (blk_cell BK103.out 2).trans rfl
                        have hcz28_3 : wc.cell? ⟨gb103, 3, none⟩ = some (.int .i64 0) := (blk_cell BK103.out 3).trans rfl
                        have hfz28_0 := blk_frozen BK103.out 0
                        have hfz28_1 := blk_frozen BK103.out 1
                        have hfz28_2 := blk_frozen BK103.out 2
                        have hfz28_3 := blk_frozen BK103.out 3
                        go_wp2
                        refine bodyPost_ret (results_ct rfl _ _ gb103 185 #[.int .i64 1, .int .i64 2, .int .i64 0, .int .i64 0] (0, 0) _ rfl (by (with_reducible repeat (first | refine blk_drewN ?_ _ | refine blk_drew ?_ | refine blk_alloc ?_ _)); refine blk_put (cs := #[.int .i64 1, .int .i64 2, .int .i64 0, .int .i64 0]) ?_ 3 _ rfl; (with_reducible repeat (first | refine blk_drewN ?_ _ | refine blk_drew ?_ | refine blk_alloc ?_ _)); refine blk_put (cs := #[.int .i64 1, .int .i64 2, .int .i64 0, .int .i64 0]) ?_ 2 _ rfl; (with_reducible repeat (first | refine blk_drewN ?_ _ | refine blk_drew ?_ | refine blk_alloc ?_ _)); refine blk_put (cs := #[.int .i64 1, .int .i64 0, .int .i64 0, .int .i64 0]) ?_ 1 _ rfl; (with_reducible repeat (first | refine blk_drewN ?_ _ | refine blk_drew ?_ | refine blk_alloc ?_ _)); refine blk_put (cs := #[.int .i64 0, .int .i64 0, .int .i64 0, .int .i64 0]) ?_ 0 _ rfl; (with_reducible repeat (first | refine blk_drewN ?_ _ | refine blk_drew ?_ | refine blk_alloc ?_ _)); exact BK103.out) Try.underlying185 rfl (by kernel_rfl)) rfl ?_
                        exact ⟨by first | rfl | (simp [errW_none, errW_some] <;> rfl) | (simp [*, errW_none, errW_some] <;> rfl), by repeat (first | (with_reducible first | exact HB.out | apply below_alloc | apply pw_below_drewN | apply below_drew1 | refine below_set ?_ GE103.out) | exact HB.out)⟩
                      · rw [if_neg c27] at H
                        have c27b0 : (a0 == 14) = false := beq_eq_false_iff_ne.mpr c27
                        have c27b1 : (a0 != 14) = true := bne_iff_ne.mpr c27
                        have HC29 := Aside0.mk H
                        clear H
                        go_upto_if 37 with (fail)
                        go_cut [37] (fun v37 wc => ∃ (kq : Nat) (x37_28 : Bool), v37 = .bool x37_28 ∧ Aside0 (valid_shapeOf.j1 kq a0 x37_28 = some (r1, r2, r3, r4, r5)) ∧ Aside0 (kq ≤ kj7) ∧ Aside0 (wc.heap[gb103]? = some (.cells #[.int .i64 0, .int .i64 0, .int .i64 0, .int .i64 0] 185 (0, 0))) ∧ Aside0 (Below w.heap.size w wc))
                        case first =>
                          have H := HC29.out
                          clear HC29
                          by_cases c30 : a0 = 15
                          · rw [if_pos c30] at H
                            have c30b0 : (a0 == 15) = true := beq_iff_eq.mpr c30
                            have c30b1 : (a0 != 15) = false := bne_eq_false_iff_eq.mpr c30
                            clear c30
                            (first | rw [c30b0] | (simp only [i64_w, i32_w]; rw [c30b0]) | skip)
                            have H' := Aside0.mk H
                            clear H
                            go_wp2
                            go_meet
                            case rel => exact ⟨_, ((a0 == 15)), (by first | rfl | (simp; done) | (simp [*]; done)), H', ⟨by have := HJ7.out; first | omega | exact Nat.le_refl _⟩, ⟨by (with_reducible repeat (first | refine blk_drewN ?_ _ | refine blk_drew ?_ | refine blk_alloc ?_ _)); exact BK103.out⟩, ⟨by repeat (first | (with_reducible first | exact HB.out | apply below_alloc | apply pw_below_drewN | apply below_drew1 | refine below_set ?_ GE103.out) | exact HB.out)⟩⟩
                          · rw [if_neg c30] at H
                            have c30b0 : (a0 == 15) = false := beq_eq_false_iff_ne.mpr c30
                            have c30b1 : (a0 != 15) = true := bne_iff_ne.mpr c30
                            (first | rw [c30b0] | (simp only [i64_w, i32_w]; rw [c30b0]) | skip)
                            have H' := Aside0.mk H
                            clear H
                            go_wp2
                            go_meet
                            case rel => exact ⟨_, ((a0 == 17)), (by first | rfl | (simp; done) | (simp [*]; done)), H', ⟨by have := HJ7.out; first | omega | exact Nat.le_refl _⟩, ⟨by (with_reducible repeat (first | refine blk_drewN ?_ _ | refine blk_drew ?_ | refine blk_alloc ?_ _)); exact BK103.out⟩, ⟨by repeat (first | (with_reducible first | exact HB.out | apply below_alloc | apply pw_below_drewN | apply below_drew1 | refine below_set ?_ GE103.out) | exact HB.out)⟩⟩
                        case rest =>
                          clear HC29
                          try clear c1
                          try clear c2
                          try clear c2b0
                          try clear c2b1
                          try clear p2
                          try clear c3
                          try clear c5
                          try clear c5b0
                          try clear c5b1
                          try clear c8
                          try clear c10
                          try clear c10b0
                          try clear c10b1
                          try clear c11
                          try clear c11b0
                          try clear c11b1
                          try clear c12
                          try clear c12b0
                          try clear c12b1
                          try clear c13
                          try clear c13b0
                          try clear c13b1
                          try clear c14
                          try clear c14b0
                          try clear c14b1
                          try clear c15
                          try clear c17
                          try clear c17b0
                          try clear c17b1
                          try clear c19
                          try clear c19b0
                          try clear c19b1
                          try clear c21
                          try clear c21b0
                          try clear c21b1
                          try clear c23
                          try clear c23b0
                          try clear c23b1
                          try clear c25
                          try clear c25b0
                          try clear c25b1
                          try clear c27
                          try clear c27b0
                          try clear c27b1
                          try clear c30
                          try clear c30b0
                          try clear c30b1
                          try clear hcz16_0
                          try clear hcz16_1
                          try clear hcz16_2
                          try clear hcz16_3
                          try clear hcz18_0
                          try clear hcz18_1
                          try clear hcz18_2
                          try clear hcz18_3
                          try clear hcz20_0
                          try clear hcz20_1
                          try clear hcz20_2
                          try clear hcz20_3
                          try clear hcz22_0
                          try clear hcz22_1
                          try clear hcz22_2
                          try clear hcz22_3
                          try clear hcz24_0
                          try clear hcz24_1
                          try clear hcz24_2
                          try clear hcz24_3
                          try clear hcz26_0
                          try clear hcz26_1
                          try clear hcz26_2
                          try clear hcz26_3
                          try clear hcz28_0
                          try clear hcz28_1
                          try clear hcz28_2
                          try clear hcz28_3
                          try clear hcz4_0
                          try clear hcz4_1
                          try clear hcz4_2
                          try clear hcz4_3
                          try clear hcz7_0
                          try clear hcz7_1
                          try clear hcz7_2
                          try clear hcz7_3
                          try clear hfz16_0
                          try clear hfz16_1
                          try clear hfz16_2
                          try clear hfz16_3
                          try clear hfz18_0
                          try clear hfz18_1
                          try clear hfz18_2
                          try clear hfz18_3
                          try clear hfz20_0
                          try clear hfz20_1
                          try clear hfz20_2
                          try clear hfz20_3
                          try clear hfz22_0
                          try clear hfz22_1
                          try clear hfz22_2
                          try clear hfz22_3
                          try clear hfz24_0
                          try clear hfz24_1
                          try clear hfz24_2
                          try clear hfz24_3
                          try clear hfz26_0
                          try clear hfz26_1
                          try clear hfz26_2
                          try clear hfz26_3
                          try clear hfz28_0
                          try clear hfz28_1
                          try clear hfz28_2
                          try clear hfz28_3
                          try clear hfz4_0
                          try clear hfz4_1
                          try clear hfz4_2
                          try clear hfz4_3
                          try clear hfz7_0
                          try clear hfz7_1
                          try clear hfz7_2
                          try clear hfz7_3
                          try clear p2
                          obtain ⟨kq, x37_28, rfl, HA, HJ28, BK103, HB⟩ := hcut
                          cases kq with
                          | zero => exact absurd HA.out (by simp [valid_shapeOf.j1])
                          | succ kj28 =>
                            have H := HA.out
                            clear HA
                            simp only [valid_shapeOf.j1] at H
                            by_cases c31 : x37_28 = true
                            · subst c31
                              have H1 : (some (1, 0, 0, 0, true)) = some (r1, r2, r3, r4, r5) := by rw [if_pos rfl] at H; exact H
                              clear H
                              have H := H1
                              clear H1
                              simp only [Option.some.injEq, Prod.mk.injEq] at H
                              obtain ⟨rfl, rfl, rfl, rfl, rfl⟩ := H
                              have hcz32_0 : wc.cell? ⟨gb103, 0, none⟩ = some (.int .i64 0) := (blk_cell BK103.out 0).trans rfl
                              have hcz32_1 : wc.cell? ⟨gb103, 1, none⟩ = some (.int .i64 0) := (blk_cell BK103.out 1).trans rfl
                              have hcz32_2 : wc.cell? ⟨gb103, 2, none⟩ = some (.int .i64 0) := (blk_cell BK103.out 2).trans rfl
                              have hcz32_3 : wc.cell? ⟨gb103, 3, none⟩ = some (.int .i64 0) := (blk_cell BK103.out 3).trans rfl
                              have hfz32_0 := blk_frozen BK103.out 0
                              have hfz32_1 := blk_frozen BK103.out 1
                              have hfz32_2 := blk_frozen BK103.out 2
                              have hfz32_3 := blk_frozen BK103.out 3
                              go_wp2
                              refine bodyPost_ret (results_ct rfl _ _ gb103 185 #[.int .i64 1, .int .i64 0, .int .i64 0, .int .i64 0] (0, 0) _ rfl (by (with_reducible repeat (first | refine blk_drewN ?_ _ | refine blk_drew ?_ | refine blk_alloc ?_ _)); refine blk_put (cs := #[.int .i64 1, .int .i64 0, .int .i64 0, .int .i64 0]) ?_ 3 _ rfl; (with_reducible repeat (first | refine blk_drewN ?_ _ | refine blk_drew ?_ | refine blk_alloc ?_ _)); refine blk_put (cs := #[.int .i64 1, .int .i64 0, .int .i64 0, .int .i64 0]) ?_ 2 _ rfl; (with_reducible repeat (first | refine blk_drewN ?_ _ | refine blk_drew ?_ | refine blk_alloc ?_ _)); refine blk_put (cs := #[.int .i64 1, .int .i64 0, .int .i64 0, .int .i64 0]) ?_ 1 _ rfl; (with_reducible repeat (first | refine blk_drewN ?_ _ | refine blk_drew ?_ | refine blk_alloc ?_ _)); refine blk_put (cs := #[.int .i64 0, .int .i64 0, .int .i64 0, .int .i64 0]) ?_ 0 _ rfl; (with_reducible repeat (first | refine blk_drewN ?_ _ | refine blk_drew ?_ | refine blk_alloc ?_ _)); exact BK103.out) Try.underlying185 rfl (by kernel_rfl)) rfl ?_
                              exact ⟨by first | rfl | (simp [errW_none, errW_some] <;> rfl) | (simp [*, errW_none, errW_some] <;> rfl), by repeat (first | (with_reducible first | exact HB.out | apply below_alloc | apply pw_below_drewN | apply below_drew1 | refine below_set ?_ GE103.out) | exact HB.out)⟩
                            · replace c31 := Bool.eq_false_iff.mpr c31
                              subst c31
                              have H1 : (if a0 = 16 then (some (0, 0, 0, 6, true)) else (some (0, 0, 0, 0, false))) = some (r1, r2, r3, r4, r5) := by rw [if_neg (show ¬ (false = true) by decide)] at H; exact H
                              clear H
                              have H := H1
                              clear H1
                              by_cases c33 : a0 = 16
                              · rw [if_pos c33] at H
                                have c33b0 : (a0 == 16) = true := beq_iff_eq.mpr c33
                                have c33b1 : (a0 != 16) = false := bne_eq_false_iff_eq.mpr c33
                                clear c33
                                simp only [Option.some.injEq, Prod.mk.injEq] at H
                                obtain ⟨rfl, rfl, rfl, rfl, rfl⟩ := H
                                have hcz34_0 : wc.cell? ⟨gb103, 0, none⟩ = some (.int .i64 0) := (blk_cell BK103.out 0).trans rfl
                                have hcz34_1 : wc.cell? ⟨gb103, 1, none⟩ = some (.int .i64 0) := (blk_cell BK103.out 1).trans rfl
                                have hcz34_2 : wc.cell? ⟨gb103, 2, none⟩ = some (.int .i64 0) := (blk_cell BK103.out 2).trans rfl
                                have hcz34_3 : wc.cell? ⟨gb103, 3, none⟩ = some (.int .i64 0) := (blk_cell BK103.out 3).trans rfl
                                have hfz34_0 := blk_frozen BK103.out 0
                                have hfz34_1 := blk_frozen BK103.out 1
                                have hfz34_2 := blk_frozen BK103.out 2
                                have hfz34_3 := blk_frozen BK103.out 3
                                go_wp2
                                refine bodyPost_ret (results_ct rfl _ _ gb103 185 #[.int .i64 0, .int .i64 0, .int .i64 0, .int .i64 6] (0, 0) _ rfl (by (with_reducible repeat (first | refine blk_drewN ?_ _ | refine blk_drew ?_ | refine blk_alloc ?_ _)); refine blk_put (cs := #[.int .i64 0, .int .i64 0, .int .i64 0, .int .i64 0]) ?_ 3 _ rfl; (with_reducible repeat (first | refine blk_drewN ?_ _ | refine blk_drew ?_ | refine blk_alloc ?_ _)); refine blk_put (cs := #[.int .i64 0, .int .i64 0, .int .i64 0, .int .i64 0]) ?_ 2 _ rfl; (with_reducible repeat (first | refine blk_drewN ?_ _ | refine blk_drew ?_ | refine blk_alloc ?_ _)); refine blk_put (cs := #[.int .i64 0, .int .i64 0, .int .i64 0, .int .i64 0]) ?_ 1 _ rfl; (with_reducible repeat (first | refine blk_drewN ?_ _ | refine blk_drew ?_ | refine blk_alloc ?_ _)); refine blk_put (cs := #[.int .i64 0, .int .i64 0, .int .i64 0, .int .i64 0]) ?_ 0 _ rfl; (with_reducible repeat (first | refine blk_drewN ?_ _ | refine blk_drew ?_ | refine blk_alloc ?_ _)); exact BK103.out) Try.underlying185 rfl (by kernel_rfl)) rfl ?_
                                exact ⟨by first | rfl | (simp [errW_none, errW_some] <;> rfl) | (simp [*, errW_none, errW_some] <;> rfl), by repeat (first | (with_reducible first | exact HB.out | apply below_alloc | apply pw_below_drewN | apply below_drew1 | refine below_set ?_ GE103.out) | exact HB.out)⟩
                              · rw [if_neg c33] at H
                                have c33b0 : (a0 == 16) = false := beq_eq_false_iff_ne.mpr c33
                                have c33b1 : (a0 != 16) = true := bne_iff_ne.mpr c33
                                simp only [Option.some.injEq, Prod.mk.injEq] at H
                                obtain ⟨rfl, rfl, rfl, rfl, rfl⟩ := H
                                have hcz35_0 : wc.cell? ⟨gb103, 0, none⟩ = some (.int .i64 0) := (blk_cell BK103.out 0).trans rfl
                                have hcz35_1 : wc.cell? ⟨gb103, 1, none⟩ = some (.int .i64 0) := (blk_cell BK103.out 1).trans rfl
                                have hcz35_2 : wc.cell? ⟨gb103, 2, none⟩ = some (.int .i64 0) := (blk_cell BK103.out 2).trans rfl
                                have hcz35_3 : wc.cell? ⟨gb103, 3, none⟩ = some (.int .i64 0) := (blk_cell BK103.out 3).trans rfl
                                have hfz35_0 := blk_frozen BK103.out 0
                                have hfz35_1 := blk_frozen BK103.out 1
                                have hfz35_2 := blk_frozen BK103.out 2
                                have hfz35_3 := blk_frozen BK103.out 3
                                go_wp2
                                refine bodyPost_ret (results_ct rfl _ _ gb103 185 #[.int .i64 0, .int .i64 0, .int .i64 0, .int .i64 0] (0, 0) _ rfl (by (with_reducible repeat (first | refine blk_drewN ?_ _ | refine blk_drew ?_ | refine blk_alloc ?_ _)); refine blk_put (cs := #[.int .i64 0, .int .i64 0, .int .i64 0, .int .i64 0]) ?_ 3 _ rfl; (with_reducible repeat (first | refine blk_drewN ?_ _ | refine blk_drew ?_ | refine blk_alloc ?_ _)); refine blk_put (cs := #[.int .i64 0, .int .i64 0, .int .i64 0, .int .i64 0]) ?_ 2 _ rfl; (with_reducible repeat (first | refine blk_drewN ?_ _ | refine blk_drew ?_ | refine blk_alloc ?_ _)); refine blk_put (cs := #[.int .i64 0, .int .i64 0, .int .i64 0, .int .i64 0]) ?_ 1 _ rfl; (with_reducible repeat (first | refine blk_drewN ?_ _ | refine blk_drew ?_ | refine blk_alloc ?_ _)); refine blk_put (cs := #[.int .i64 0, .int .i64 0, .int .i64 0, .int .i64 0]) ?_ 0 _ rfl; (with_reducible repeat (first | refine blk_drewN ?_ _ | refine blk_drew ?_ | refine blk_alloc ?_ _)); exact BK103.out) Try.underlying185 rfl (by kernel_rfl)) rfl ?_
                                exact ⟨by first | rfl | (simp [errW_none, errW_some] <;> rfl) | (simp [*, errW_none, errW_some] <;> rfl), by repeat (first | (with_reducible first | exact HB.out | apply below_alloc | apply pw_below_drewN | apply below_drew1 | refine below_set ?_ GE103.out) | exact HB.out)⟩

end Go.Proofs.Ytcciejcpijlkfaa.H

set_option linter.unusedVariables false
set_option linter.unusedSimpArgs false
namespace Go.Proofs.Ytcciejcpijlkfaa.H
open Go.RowKit Go.Proofs.YtcciejcpijlkfaaW.PrintWords Go.Proofs.YtcciejcpijlkfaaW.PrintLast Go.Proofs.YtcciejcpijlkfaaW.PrintMore
def inB (lo hi n : Int) : Bool := decide (lo ≤ n) && decide (n < hi)
def fieldE (np lc : Nat) (n p : Int) : Option Int :=
  if p = 1 then (if inB 0 8 n then none else some 6)
  else if p = 2 then (if inB 0 4 n then none else some 6)
  else if p = 3 then (if inB 0 np n then none else some 5)
  else if p = 5 then (if inB 0 lc n then none else some 6)
  else if p = 6 then (if inB 16 2147483648 n then none else some 6)
  else if p = 4 then (if inB (-2147483648) 2147483648 n then none else some 6)
  else none
def shapeP (op : Int) : Int × Int × Int × Int × Bool :=
  if op = 1 then (1, 0, 0, 4, true) else if op = 2 then (1, 1, 0, 0, true)
  else if 3 ≤ op ∧ op ≤ 8 then (1, 1, 1, 0, true) else if op = 9 then (0, 0, 0, 5, true) else if op = 10 then (1, 0, 0, 5, true)
  else if op = 11 then (1, 1, 3, 0, true) else if op = 12 then (0, 0, 0, 0, true) else if op = 13 then (2, 1, 3, 0, true)
  else if op = 14 then (1, 2, 0, 0, true) else if op = 15 ∨ op = 17 then (1, 0, 0, 0, true) else if op = 16 then (0, 0, 0, 6, true) else (0, 0, 0, 0, false)
theorem shape_eq (op : Int) : valid_shapeOf.f 3 op = some (shapeP op) := by
  by_cases h : 1 ≤ op ∧ op ≤ 17
  · have : op = 1 ∨ op = 2 ∨ op = 3 ∨ op = 4 ∨ op = 5 ∨ op = 6 ∨ op = 7 ∨ op = 8 ∨ op = 9 ∨ op = 10 ∨ op = 11 ∨ op = 12 ∨ op = 13 ∨ op = 14 ∨ op = 15 ∨ op = 16 ∨ op = 17 := by omega
    rcases this with rfl | rfl | rfl | rfl | rfl | rfl | rfl | rfl | rfl | rfl | rfl | rfl | rfl | rfl | rfl | rfl | rfl <;> decide
  · have n : ∀ k : Int, 1 ≤ k → k ≤ 17 → (op = k) = False := fun k h1 h2 => eq_false (by omega)
    have b : ∀ k : Int, 1 ≤ k → k ≤ 17 → (op == k) = false := fun k h1 h2 => by simp [n k h1 h2]
    have e : (3 ≤ op ∧ op ≤ 8) = False := eq_false (by omega)
    simp [valid_shapeOf.f, valid_shapeOf.j0, valid_shapeOf.j1, shapeP, n, e]
theorem shape_three (op : Int) : ((shapeP op).2.2.1 = 3 → (shapeP op).2.1 = 1) := by
  unfold shapeP
  repeat' split
  all_goals simp
def arityE (l : List S68) (x : S65) (c : Int) : Option Int := if c = 3 then (if (rd_T68 l x.f3).f0 ≤ 8 - x.f2 then none else some 6) else none
def instrE (lc : Nat) (l : List S68) (x : S65) : Option Int :=
  match shapeP x.f0 with
  | (a, b, c, k, is) => if is = false then some 4 else if a = 0 ∧ x.f1 ≠ 0 then some 4 else if b = 0 ∧ x.f2 ≠ 0 then some 4 else if c = 0 ∧ x.f3 ≠ 0 then some 4 else if k = 0 ∧ x.f4 ≠ 0 then some 4
    else (fieldE l.length lc x.f1 a).or ((fieldE l.length lc x.f2 b).or ((fieldE l.length lc x.f3 c).or ((fieldE l.length lc x.f4 k).or (arityE l x c))))
theorem instrE_eq {lc : Nat} {l : List S68} {x : S65} {a b c k : Int} {is : Bool} (h : shapeP x.f0 = (a, b, c, k, is)) : instrE lc l x = (if is = false then some 4 else if a = 0 ∧ x.f1 ≠ 0 then some 4 else if b = 0 ∧ x.f2 ≠ 0 then some 4 else if c = 0 ∧ x.f3 ≠ 0 then some 4 else if k = 0 ∧ x.f4 ≠ 0 then some 4
    else (fieldE l.length lc x.f1 a).or ((fieldE l.length lc x.f2 b).or ((fieldE l.length lc x.f3 c).or ((fieldE l.length lc x.f4 k).or (arityE l x c))))) := by
  unfold instrE
  split
  rename_i e
  rw [h] at e
  cases e
  rfl
def instrsE (lc : Nat) (l : List S68) : Nat → List S65 → Option (Int × Int)
  | _, [] => none
  | k, x :: r => match instrE lc l x with
    | some e => some (k, e)
    | none => instrsE lc l (k + 1) r
def lastE (g : S68) : Option (Int × Int) :=
  let o := (rd_T65 g.f1 ((g.f1.length : Int) - 1)).f0
  if o = 9 ∨ o = 16 ∨ o = 17 then none else some ((g.f1.length : Int) - 1, 11)
def funcE (l : List S68) (g : S68) : Option (Int × Int) :=
  if 0 ≤ g.f0 ∧ g.f0 ≤ 4 then if 1 ≤ g.f1.length ∧ g.f1.length ≤ 64 then (instrsE g.f1.length l 0 g.f1).or (lastE g) else some (0, 3) else some (0, 6)
def funcsE (l : List S68) : Nat → List S68 → Option (Int × Int × Int)
  | _, [] => none
  | f, g :: r => match funcE l g with
    | some e => some (f, e.1, e.2)
    | none => funcsE l (f + 1) r
def checkP (l : List S68) : Int × Int × Int := if 1 ≤ l.length ∧ l.length ≤ 16 then (funcsE l 0 l).getD (0, 0, 0) else (0, 0, 3)
def valid_Check.f (l : List S68) : Option (Int × Int × Int) := some (checkP l)
end Go.Proofs.Ytcciejcpijlkfaa.H

set_option linter.unusedVariables false
set_option linter.unusedSimpArgs false
namespace Go.Hay
open Go.RowKit

/-! ### a deferred closure that recovers -/
theorem wpS_body {P : Program} {fn : Func} {c : Code} {c₀ : Frame} {cs : List Frame} {R : Ending → FrameMode → World → Prop} {a : Act} {w : World} {u : FrameMode}
    (h : c.wp P (bodyPost P fn fun e w' => R e u w') a w) : c.wpS P (bodyPostS P fn c₀ cs R) a ({ c₀ with mode := u } :: cs) w := by
  refine wpS_of_wp (Code.wp_mono ?_ h)
  intro e a w' q
  cases e with
  | normal => obtain ⟨hd, v, hr, hR⟩ := q; exact ⟨hd, u, rfl, v, hr, hR⟩
  | ret => obtain ⟨hd, v, hr, hR⟩ := q; exact ⟨hd, u, rfl, v, hr, hR⟩
  | panic ch => obtain ⟨hd, hR⟩ := q; exact ⟨hd, u, rfl, hR⟩
  | outgrown => exact ⟨u, q⟩
  | exit id => exact q.elim
  | goto l => exact q.elim
theorem wpS_body_same {P : Program} {fn : Func} {c : Code} {c₀ : Frame} {cs : List Frame} {R : Ending → FrameMode → World → Prop} {a : Act} {w : World} {u : FrameMode} (hu : c₀.mode = u)
    (h : c.wp P (bodyPost P fn fun e w' => R e u w') a w) : c.wpS P (bodyPostS P fn c₀ cs R) a (c₀ :: cs) w := by
  have h2 := wpS_body (c₀ := c₀) (cs := cs) h
  subst hu
  exact h2

/-! ### a region that draws its order, walked in one order: what yields in every world that meets S is taken first (.take); the others come one by one (.op); behind those of the last kind (.fin) S is not asked: they wait for all that were taken -/
inductive Turn where
  | take (i : Nat)
  | op (i : Nat)
  | fin (i : Nat)
def Turn.at : Turn → Nat
  | .take i | .op i | .fin i => i
section
variable {P : Program} {md : Region.Mode} {ops : Array Oper} {Q : Exit → Act → World → Prop} {S : World → Prop} {F : List Nat}
def depsAt (md : Region.Mode) (ops : Array Oper) (k : Nat) : List Nat :=
  match ops[k]? with
  | some o => (o.after.toList.filter (Region.binds md)).map (·.on)
  | none => []
/-- Those that wait for i, one behind the other. -/
def upset (md : Region.Mode) (ops : Array Oper) (i : Nat) : List Nat :=
  (List.range ops.size).foldl (fun acc k => if (depsAt md ops k).any acc.contains then k :: acc else acc) [i]
structure Closed (md : Region.Mode) (ops : Array Oper) (listed : Array Bool) : Prop where
  size : listed.size = ops.size
  closed : ∀ j oj, ops[j]? = some oj → listed.getD j false = true → ∀ e ∈ oj.after, Region.binds md e = true → listed.getD e.on false = true
theorem Closed.set {i : Nat} {listed : Array Bool} (inv : Closed md ops listed) (hi : i ∈ Region.ready md ops listed) : Closed md ops (listed.setIfInBounds i true) := by
  obtain ⟨_, oi, hoi, hall⟩ := mem_ready.1 hi
  refine ⟨by simp [inv.size], fun j oj hj hl e he hb => ?_⟩
  by_cases hij : i = j
  · subst hij
    have : oj = oi := Option.some.inj (hj.symm.trans hoi)
    subst this
    exact getD_set_true (hall e he hb)
  · rw [getD_set_ne false hij] at hl
    exact getD_set_true (inv.closed j oj hj hl e he hb)
theorem Closed.start : Closed md ops (Array.replicate ops.size false) :=
  ⟨by simp, fun j oj hj hl => by rw [getD_replicate_false] at hl; cases hl⟩
theorem Closed.dep {listed : Array Bool} (inv : Closed md ops listed) {k d : Nat} (hk : listed.getD k false = true) (hd : d ∈ depsAt md ops k) : listed.getD d false = true := by
  unfold depsAt at hd
  split at hd
  · rename_i o ho
    simp only [List.mem_map, List.mem_filter] at hd
    obtain ⟨e, ⟨he, hb⟩, rfl⟩ := hd
    exact inv.closed k o ho hk e (Array.mem_toList_iff.1 he) hb
  · cases hd
theorem Closed.ready_dep {listed : Array Bool} {k d : Nat} (hk : k ∈ Region.ready md ops listed) (hd : d ∈ depsAt md ops k) : listed.getD d false = true := by
  obtain ⟨_, ok, hok, hall⟩ := mem_ready.1 hk
  unfold depsAt at hd
  rw [hok] at hd
  simp only [List.mem_map, List.mem_filter] at hd
  obtain ⟨e, ⟨he, hb⟩, rfl⟩ := hd
  exact hall e (Array.mem_toList_iff.1 he) hb
theorem upset_unlisted {listed : Array Bool} (inv : Closed md ops listed) {i : Nat} (hi : listed.getD i false = false) : ∀ k ∈ upset md ops i, listed.getD k false = false := by
  unfold upset
  generalize List.range ops.size = l
  have key : ∀ (l acc : List Nat), (∀ k ∈ acc, listed.getD k false = false) → ∀ k ∈ l.foldl (fun acc k => if (depsAt md ops k).any acc.contains then k :: acc else acc) acc, listed.getD k false = false := by
    intro l
    induction l with
    | nil => intro acc h; simpa using h
    | cons x l ih =>
      intro acc h
      rw [List.foldl_cons]
      apply ih
      split
      · rename_i hany
        intro k hk
        rcases List.mem_cons.1 hk with rfl | hk
        · obtain ⟨d, hd, hc⟩ := List.any_eq_true.1 hany
          have hd0 := h d (by simpa using hc)
          cases hx : listed.getD k false with
          | false => rfl
          | true => rw [inv.dep hx hd] at hd0; cases hd0
        · exact h k hk
      · exact h
  exact key l [i] (by intro k hk; rw [List.mem_singleton.1 hk]; exact hi)
def wpAnyF (P : Program) (md : Region.Mode) (ops : Array Oper) (Q : Exit → Act → World → Prop) (S : World → Prop) (F : List Nat) : Nat → Array Bool → Act → World → Prop
  | 0, listed, a, w => Region.ready md ops listed = [] ∧ Q .normal a w
  | fuel + 1, listed, a, w =>
    (Region.ready md ops listed = [] → Q .normal a w) ∧
    ∀ i ∈ Region.ready md ops listed, wpOp P ops Q i (fun a' w' => (F.contains i = false → S w') ∧ wpAnyF P md ops Q S F fuel (listed.setIfInBounds i true) a' w') a w
theorem wpAny_of_F : ∀ (fuel : Nat) (listed : Array Bool) (a : Act) (w : World), wpAnyF P md ops Q S F fuel listed a w → wpAny P md ops Q fuel listed a w
  | 0, _, _, _, h => h
  | fuel + 1, _, _, _, h => ⟨h.1, fun i hi => wpOp_mono (fun a' w' h' => wpAny_of_F fuel _ a' w' h'.2) (h.2 i hi)⟩
/-- those of F wait for i. -/
def blocks (md : Region.Mode) (ops : Array Oper) (F : List Nat) (i : Nat) : Bool := let u := upset md ops i; F.all fun j => (depsAt md ops j).any u.contains
theorem not_last {listed : Array Bool} (inv : Closed md ops listed) {i j : Nat} (hb : blocks md ops F i = true) (hi : listed.getD i true = false) (hj : j ∈ Region.ready md ops listed) : F.contains j = false := by
  cases hF : F.contains j with
  | false => rfl
  | true =>
    have h1 := List.all_eq_true.1 hb j (by simpa using hF)
    obtain ⟨d, hd, hc⟩ := List.any_eq_true.1 h1
    have h2 := upset_unlisted inv (getD_both hi) d (by simpa using hc)
    rw [Closed.ready_dep hj hd] at h2; cases h2
theorem wpAnyF_first {i : Nat} {oi : Oper} {v : Value} (hi : ops[i]? = some oi) (hsel : ∀ (j : Nat) (o : Oper) cs b, ops[j]? = some o → o.op ≠ .select cs b)
    (hQ : ∀ c a w, Q (.panic c) (a.put oi.dst v) w → Q (.panic c) a w) (hb : blocks md ops F i = true) :
    ∀ (fuel : Nat) (listed : Array Bool) (a : Act) (w : World), Closed md ops listed → F.contains i = false →
      (∀ j oj, ops[j]? = some oj → j ≠ i → listed.getD j true = false → (∀ e ∈ oj.after, Region.binds md e = true → e.on ≠ i) → oi.apart ops oj = true) →
      i ∈ Region.ready md ops listed → YieldsIf P ops S oi v a → S w →
      wpAnyF P md ops Q S F fuel (listed.setIfInBounds i true) (a.put oi.dst v) w → wpAnyF P md ops Q S F (fuel + 1) listed a w := by
  intro fuel
  induction fuel with
  | zero =>
    intro listed a w _ _ _ hr hy hS H
    refine ⟨fun h => (by rw [h] at hr; cases hr), fun j hj => ?_⟩
    by_cases hji : j = i
    · subst hji; exact hy.wpOp hi hS ⟨fun _ => hS, H⟩
    · have := ready_mono hj hji
      rw [H.1] at this
      cases this
  | succ fuel ih =>
    intro listed a w inv hFi hfree hr hy hS H
    refine ⟨fun h => (by rw [h] at hr; cases hr), fun j hj => ?_⟩
    by_cases hji : j = i
    · subst hji; exact hy.wpOp hi hS ⟨fun _ => hS, H⟩
    · have h1 := H.2 j (ready_mono hj hji)
      obtain ⟨hjun, oj, hoj, hall⟩ := mem_ready.1 hj
      have hiun := (mem_ready.1 hr).1
      have hnF := not_last inv hb hiun hj
      have hnot : ∀ e ∈ oj.after, Region.binds md e = true → e.on ≠ i := fun e he hb heq => by
        have h1 := hall e he hb
        rw [heq] at h1
        have h0 := getD_both hiun
        rw [h1] at h0; cases h0
      have h2 := wpOp_putIf hoj (hfree j oj hoj hji hjun hnot) (fun cs b => hsel i oi cs b hi) (fun cs b => hsel j oj cs b hoj) hQ hy h1
      have hfree' : ∀ k ok, ops[k]? = some ok → k ≠ i → (listed.setIfInBounds j true).getD k true = false →
          (∀ e ∈ ok.after, Region.binds md e = true → e.on ≠ i) → oi.apart ops ok = true := fun k ok hk hki hun hno => by
        refine hfree k ok hk hki ?_ hno
        by_cases hjk : j = k
        · subst hjk; exact hjun
        · rw [getD_set_ne true hjk] at hun; exact hun
      refine wpOp_mono (fun a' w' h3 => ⟨fun _ => h3.2.1 hnF, ih (listed.setIfInBounds j true) a' w' (inv.set hj) hFi hfree' (ready_mono hr (Ne.symm hji)) h3.1 (h3.2.1 hnF) ?_⟩) h2
      rw [Array.setIfInBounds_comm _ _ hji]
      exact h3.2.2
def runSeq (P : Program) (ops : Array Oper) (Q : Exit → Act → World → Prop) (S : World → Prop) : List Turn → Act → World → Prop
  | [], a, w => Q .normal a w
  | .take i :: r, a, w => ∃ o v, ops[i]? = some o ∧ YieldsIf P ops S o v a ∧ S w ∧ runSeq P ops Q S r (a.put o.dst v) w
  | .op i :: r, a, w => wpOp P ops Q i (fun a' w' => S w' ∧ runSeq P ops Q S r a' w') a w
  | .fin i :: r, a, w => wpOp P ops Q i (fun a' w' => runSeq P ops Q S r a' w') a w
def okSeq (md : Region.Mode) (ops : Array Oper) (F : List Nat) : List Turn → Array Bool → Bool
  | [], listed => (Region.ready md ops listed).isEmpty
  | .take i :: r, listed => (Region.ready md ops listed).contains i && Region.free md ops listed i && blocks md ops F i && !F.contains i && okSeq md ops F r (listed.setIfInBounds i true)
  | .op i :: r, listed => (Region.ready md ops listed == [i]) && okSeq md ops F r (listed.setIfInBounds i true)
  | .fin i :: r, listed => (Region.ready md ops listed == [i]) && F.contains i && okSeq md ops F r (listed.setIfInBounds i true)
theorem wpAnyF_seq (hs : Region.noSelect ops = true) (hQ : ∀ o ∈ ops.toList, ∀ c a v w, Q (.panic c) (a.put o.dst v) w → Q (.panic c) a w) :
    ∀ (l : List Turn) (listed : Array Bool) (a : Act) (w : World), Closed md ops listed → okSeq md ops F l listed = true → runSeq P ops Q S l a w → wpAnyF P md ops Q S F l.length listed a w
  | [], listed, a, w, _, hk, h => ⟨by simpa [okSeq] using hk, h⟩
  | .take i :: r, listed, a, w, inv, hk, h => by
    simp only [okSeq, Bool.and_eq_true, Bool.not_eq_true'] at hk
    obtain ⟨o, v, ho, hy, hS, hr⟩ := h
    have hi : i ∈ Region.ready md ops listed := by simpa using hk.1.1.1.1
    exact wpAnyF_first ho (Region.noSelect_spec hs) (fun c a w => hQ o (Array.mem_toList_iff.2 (Array.mem_of_getElem? ho)) c a v w) hk.1.1.2 r.length listed a w inv hk.1.2
      (Region.free_spec ho hk.1.1.1.2) hi hy hS (wpAnyF_seq hs hQ r _ _ _ (inv.set hi) hk.2 hr)
  | .op i :: r, listed, a, w, inv, hk, h => by
    simp only [okSeq, Bool.and_eq_true, beq_iff_eq] at hk
    refine ⟨fun h0 => (by rw [hk.1] at h0; cases h0), fun j hj => ?_⟩
    have hji : j = i := by rw [hk.1] at hj; simpa using hj
    subst hji
    exact wpOp_mono (fun a' w' h' => ⟨fun _ => h'.1, wpAnyF_seq hs hQ r _ _ _ (inv.set hj) hk.2 h'.2⟩) h
  | .fin i :: r, listed, a, w, inv, hk, h => by
    simp only [okSeq, Bool.and_eq_true, beq_iff_eq] at hk
    refine ⟨fun h0 => (by rw [hk.1.1] at h0; cases h0), fun j hj => ?_⟩
    have hji : j = i := by rw [hk.1.1] at hj; simpa using hj
    subst hji
    exact wpOp_mono (fun a' w' h' => ⟨fun hc => (by rw [hk.1.2] at hc; cases hc), wpAnyF_seq hs hQ r _ _ _ (inv.set hj) hk.2 h'⟩) h
theorem wp_region_seq {id : Nat} {a : Act} {w : World} (S : World → Prop) (F : List Nat) (l : List Turn) (hm : P.follows .mixedOrders = true) (hs : Region.noSelect ops = true) (hl : l.length = ops.size)
    (hk : okSeq .any ops F l (Array.replicate ops.size false) = true)
    (hQ : ∀ o ∈ ops.toList, ∀ c a v w, Q (.panic c) (a.put o.dst v) w → Q (.panic c) a w)
    (h : runSeq P ops Q S l a w.drew) : (Code.region id ops true).wp P Q a w :=
  wp_region_any hm (wpAny_of_F _ _ _ _ (hl ▸ wpAnyF_seq hs hQ l _ _ _ Closed.start hk h))
theorem runSeq_nil {a : Act} {w : World} (h : Q .normal a w) : runSeq P ops Q S [] a w := h
theorem runSeq_take {i : Nat} {o : Oper} {v : Value} {r : List Turn} {a : Act} {w : World} (ho' : ops.toList[i]? = some o) (hw : Region.wanted o (yielded ops a.tmps) = true)
    (hy : ∀ w', S w' → (execOp a.eval o).run P w' = .ok (.value v) w') (hS : S w) (h : runSeq P ops Q S r (a.put o.dst v) w) : runSeq P ops Q S (.take i :: r) a w :=
  ⟨o, v, by simpa using ho', .inl ⟨hw, hy⟩, hS, h⟩
theorem runSeq_skip {i : Nat} {o : Oper} {r : List Turn} {a : Act} {w : World} (ho' : ops.toList[i]? = some o) (hw : Region.wanted o (yielded ops a.tmps) = false)
    (hS : S w) (h : runSeq P ops Q S r (a.put o.dst undef) w) : runSeq P ops Q S (.take i :: r) a w :=
  ⟨o, undef, by simpa using ho', .inr ⟨hw, rfl⟩, hS, h⟩
theorem runSeq_op {i : Nat} {o : Oper} {r : List Turn} {a : Act} {w : World} (ho' : ops.toList[i]? = some o) (hw : Region.wanted o (yielded ops a.tmps) = true)
    (h : ∀ K : Act → World → Prop, (∀ a' w', S w' → runSeq P ops Q S r a' w' → K a' w') → o.wp P a w K Q) : runSeq P ops Q S (.op i :: r) a w := by
  have ho : ops[i]? = some o := by simpa using ho'
  show wpOp _ _ _ _ _ _ _
  unfold wpOp
  simp only [ho, hw, if_true]
  exact .inl (h _ fun a' w' hS hr => ⟨hS, hr⟩)
theorem runSeq_fin {i : Nat} {o : Oper} {r : List Turn} {a : Act} {w : World} (ho' : ops.toList[i]? = some o) (hw : Region.wanted o (yielded ops a.tmps) = true)
    (h : ∀ K : Act → World → Prop, (∀ a' w', runSeq P ops Q S r a' w' → K a' w') → o.wp P a w K Q) : runSeq P ops Q S (.fin i :: r) a w := by
  have ho : ops[i]? = some o := by simpa using ho'
  show wpOp _ _ _ _ _ _ _
  unfold wpOp
  simp only [ho, hw, if_true]
  exact .inl (h _ fun a' w' hr => hr)
end
/-! ### what the region's post asks of a frame at a panic -/
theorem put_getD {a : Act} {d : Option Tmp} {v : Value} {t : Nat} (h : d ≠ some t) : (a.put d v).tmps.getD t undef = a.tmps.getD t undef := by
  cases d with
  | none => rfl
  | some k =>
    have hk : k ≠ t := fun e => h (by rw [e])
    simp [Act.put, Array.getD_eq_getD_getElem?, Array.getElem?_setIfInBounds_ne hk]
theorem panic_put {P : Program} {fn : Func} {R : Ending → World → Prop} {ops : Array Oper} :
    ∀ o ∈ ops.toList, ∀ c a v w, bodyPost P fn R (.panic c) (a.put o.dst v) w → bodyPost P fn R (.panic c) a w := by
  intro o ho c a v w h
  have hd : (a.put o.dst v).defers = a.defers := by cases o.dst <;> rfl
  exact ⟨hd ▸ h.1, h.2⟩
end Go.Hay

set_option linter.unusedVariables false
set_option linter.unusedSimpArgs false
namespace Go.Hay
open Go.RowKit Go.Proofs.YtcciejcpijlkfaaW.PrintWords Go.Proofs.YtcciejcpijlkfaaW.PrintLast Go.Proofs.YtcciejcpijlkfaaW.PrintMore

theorem reads_cells {α : Type} {R : α → List Value → Prop} {size : Nat} {W : World} {b : Nat} {C : Array Value} {t : TypeId} {fr : Nat × Nat} {ps : List α} (h : W.heap[b]? = some (.cells C t fr)) (hr : Reps R size ps C.toList)
    (hm : ps.length ≤ 9223372036854775807) : ReadsRow R size W (some ⟨b, 0, none⟩) ps.length ps := by
  refine ⟨rfl, hm, fun _ => ⟨_, rfl, fun j p hj => ?_⟩⟩
  have hlt : j < ps.length := (List.getElem?_eq_some_iff.1 hj).1
  have hle : (j + 1) * size ≤ ps.length * size := Nat.mul_le_mul_right _ hlt
  rw [Nat.add_mul, Nat.one_mul] at hle
  refine ⟨_, ?_, hr.2 j p hj, fun i u hu => ?_⟩
  · have := hr.1
    simp only [List.length_take, List.length_drop]
    omega
  · rw [add_plain]
    have hi : i < size := by
      have := (List.getElem?_eq_some_iff.1 hu).1
      simp only [List.length_take] at this
      omega
    rw [cell_of_row W b _ C t fr h]
    rw [List.getElem?_take_of_lt hi, List.getElem?_drop] at hu
    simpa using hu

theorem alloc_blk (w : World) (o : Obj) : (w.alloc o).heap[w.heap.size]? = some o := by
  show (w.heap.push o)[_]? = _
  rw [Array.getElem?_push_size]

/-- A literal of numbers. -/
theorem reads_nums {W : World} {b : Nat} {t : TypeId} {fr : Nat × Nat} {k : IntKind} (ys : List Int) (h : W.heap[b]? = some (.cells (ys.map (Value.int k)).toArray t fr)) (hm : ys.length ≤ 9223372036854775807) :
    ReadsRow ((Kd.int k).K W) 1 W (some ⟨b, 0, none⟩) ys.length ys := by
  refine reads_cells h ⟨by simp, fun j p hj => ?_⟩ hm
  show _ = [Value.int k p]
  have hlt : j < ys.length := (List.getElem?_eq_some_iff.1 hj).1
  simp only [Nat.mul_one, ← List.map_drop, ← List.map_take]
  rw [List.drop_eq_getElem_cons hlt]
  have : ys[j] = p := by rw [List.getElem?_eq_getElem hlt] at hj; exact Option.some.inj hj
  simp [this]

/-- append(v, ys...) at the operation. -/
theorem wp_append_rows {P : Program} {o : Oper} {a : Act} {K : Act → World → Prop} {Q : Exit → Act → World → Prop} {α : Type} (d : Kd α) {Rr : α → List Value → Prop} {W : World} (base : Nat) (hgd : o.guard = none) (s x : Operand) (t e : TypeId) (z : Value) (bytes : Nat)
    (ho : o.op = .call { callee := .builtin .append, args := #[s, x], argTypes := #[t, t] })
    (ht : P.underlying t = some (.slice e)) (hinfo : (P.info? e).map (fun i => (i.zero, i.size, i.bytes)) = some (some z, d.sz, bytes)) (hz : z.cells.size = d.sz) (hs0 : 0 < d.sz) (hb0 : 0 < bytes)
    (v : Value) (xs ys : List α) (A : Option Addr) (m c : Nat) (ok okp : Nat → Prop) (hs : a.eval s = v) (hx : a.eval x = .slice A m c)
    (HO : d.R e W base ok v xs) (HR : ReadsRow Rr d.sz W A m ys) (hKM : ∀ x cs, Rr x cs → d.M W base okp x cs) (hokp : ∀ k, okp k → ok k ∧ some k ≠ v.ownBlock) (hfresh : ∀ k, W.heap.size ≤ k → ok k)
    (hbase : base ≤ W.heap.size) (hl : (xs.length + m) * bytes ≤ 140737488355328)
    (h : ∀ v1 w1, d.R e w1 base ok v1 (xs ++ ys) → Below base W w1 → W.grownBy w1 v.ownBlock → (v1.ownBlock = v.ownBlock ∨ ∃ b, v1.ownBlock = some b ∧ W.heap.size ≤ b) → K (a.put o.dst v1) w1) :
    o.wp P a W K Q := by
  have hw : Region.wanted o (yielded #[] a.tmps) = true := by simp [Region.wanted, hgd]
  have := Kd.R_append_rows_step (P := P) (ops := #[]) (Kc := K) (Q := Q) d (w0 := W) base hw s x t e z bytes ho ht hinfo hz hs0 hb0 v xs ys A m c ok okp hs hx HO HR hKM hokp hfresh (Below.refl _ _) hbase hl h
  rwa [if_pos hw] at this
/-- append(v, literal of numbers...) at the operation. -/
theorem wp_append_nums {P : Program} {o : Oper} {a : Act} {K : Act → World → Prop} {Q : Exit → Act → World → Prop} (k : IntKind) {W : World} (base : Nat) (hgd : o.guard = none) (s x : Operand) (t e : TypeId) (bytes : Nat)
    (ho : o.op = .call { callee := .builtin .append, args := #[s, x], argTypes := #[t, t] })
    (ht : P.underlying t = some (.slice e)) (hinfo : (P.info? e).map (fun i => (i.zero, i.size, i.bytes)) = some (some (.int k 0), 1, bytes)) (hb0 : 0 < bytes)
    (v : Value) (xs ys : List Int) (A : Option Addr) (m c : Nat) (hs : a.eval s = v) (hx : a.eval x = .slice A m c)
    (HO : (Kd.int k).R e W base (fun _ => True) v xs) (HR : ReadsRow ((Kd.int k).K W) 1 W A m ys)
    (hbase : base ≤ W.heap.size) (hl : (xs.length + m) * bytes ≤ 140737488355328)
    (h : ∀ v1 w1, (Kd.int k).R e w1 base (fun _ => True) v1 (xs ++ ys) → Below base W w1 → W.grownBy w1 v.ownBlock → (v1.ownBlock = v.ownBlock ∨ ∃ b, v1.ownBlock = some b ∧ W.heap.size ≤ b) → K (a.put o.dst v1) w1) :
    o.wp P a W K Q :=
  wp_append_rows (Kd.int k) base hgd s x t e (.int k 0) bytes ho ht hinfo rfl Nat.one_pos hb0 v xs ys A m c (fun _ => True) (fun _ => False) hs hx HO HR (fun x cs h => h) (fun _ h => h.elim) (fun _ _ => trivial) hbase hl h
/-! ### a frame: all that was there is as_ it was, but the blocks of S -/
structure Keep (S : Nat → Prop) (w w' : World) : Prop where
  os : w'.os = w.os
  tape : w'.tape = w.tape
  output : w'.output = w.output
  size : w.heap.size ≤ w'.heap.size
  block : ∀ k, k < w.heap.size → ¬ S k → w'.heap[k]? = w.heap[k]?
section
variable {S T : Nat → Prop} {w w1 w2 W : World}
theorem Keep.refl (S : Nat → Prop) (w : World) : Keep S w w := ⟨rfl, rfl, rfl, Nat.le_refl _, fun _ _ _ => rfl⟩
theorem Keep.trans (h : Keep S w w1) (k : Keep S w1 w2) : Keep S w w2 :=
  ⟨k.os.trans h.os, k.tape.trans h.tape, k.output.trans h.output, Nat.le_trans h.size k.size, fun i hi hS => (k.block i (Nat.lt_of_lt_of_le hi h.size) hS).trans (h.block i hi hS)⟩
theorem Keep.mono (h : Keep S w w1) (hST : ∀ k, k < w.heap.size → S k → T k) : Keep T w w1 := ⟨h.os, h.tape, h.output, h.size, fun k hk hT => h.block k hk (fun hS => hT (hST k hk hS))⟩
/-- what is written behind the first step's blocks does not matter. -/
theorem Keep.then (h : Keep S w w1) (k : Keep T w1 w2) (hT : ∀ i, i < w.heap.size → T i → S i) : Keep S w w2 :=
  ⟨k.os.trans h.os, k.tape.trans h.tape, k.output.trans h.output, Nat.le_trans h.size k.size, fun i hi hS => (k.block i (Nat.lt_of_lt_of_le hi h.size) (fun hTi => hS (hT i hi hTi))).trans (h.block i hi hS)⟩
theorem Keep.of_below (h : Below w.heap.size w w1) (S : Nat → Prop) : Keep S w w1 := ⟨h.os, h.tape, h.output, h.size, fun k hk _ => h.block k hk⟩
theorem Keep.below {B : Nat} (h : Keep S w w1) (hB : B ≤ w.heap.size) (hS : ∀ k, k < B → ¬ S k) : Below B w w1 := ⟨h.os, h.tape, h.output, h.size, fun k hk => h.block k (Nat.lt_of_lt_of_le hk hB) (hS k hk)⟩
theorem Keep.of_belowB {B : Nat} (h : Below B w w1) : Keep (fun k => B ≤ k) w w1 := ⟨h.os, h.tape, h.output, h.size, fun k hk hS => h.block k (Nat.lt_of_not_le hS)⟩
theorem Keep.grown {row : Option Nat} (h : w.grownBy w1 row) : Keep (fun k => some k = row) w w1 := ⟨h.os, h.tape, h.output, h.size, fun k hk hS => h.block k hk hS⟩
theorem Keep.alloc (h : Keep S w w1) (o : Obj) : Keep S w (w1.alloc o) := h.then (Keep.of_below (below_alloc (Below.refl _ _) o) (fun _ => False)) (fun _ _ h => h.elim)
theorem Keep.drew (h : Keep S w w1) : Keep S w w1.drew := h.then (Keep.of_below (below_drew (Below.refl _ _)) (fun _ => False)) (fun _ _ h => h.elim)
theorem Keep.drewN (h : Keep S w w1) (n : Nat) : Keep S w (w1.drewN n) := h.then (Keep.of_below (pw_below_drewN (Below.refl _ _) n) (fun _ => False)) (fun _ _ h => h.elim)
theorem Keep.set {p : Addr} (h : Keep S w w1) (hp : w.heap.size ≤ p.block ∨ S p.block) (v : Value) : Keep S w (w1.setCell p v) :=
  ⟨h.os, h.tape, h.output, by simpa [World.setCell] using h.size, fun k hk hS => (Below.heap_setCell w1 p v k (fun e => by subst e; exact hp.elim (fun hp => absurd hk (by omega)) (fun hp => hS hp))).trans (h.block k hk hS)⟩
theorem Keep.blk {g : Nat} {o : Obj} (h : Keep S w w1) (hb : w.heap[g]? = some o) (hg : ¬ S g) : w1.heap[g]? = some o := (h.block g (blk_lt hb) hg).trans hb
theorem Keep.cell {a : Addr} {v : Value} (h : Keep S w w1) (hc : w.cell? a = some v) (hg : ¬ S a.block) : w1.cell? a = some v := by
  rw [← hc]; exact World.cell?_of_block (w := w) (h.block a.block (World.block_lt_of_cell? w a hc) hg)
end
namespace Kd
section
variable {α : Type} {d : Go.Proofs.YtcciejcpijlkfaaW.PrintWords.Kd α} {e : Nat} {w w1 : World} {base : Nat} {ok : Nat → Prop} {v : Value} {xs : List α} {S : Nat → Prop}
end
end Kd
end Go.Hay

set_option linter.unusedVariables false
set_option linter.unusedSimpArgs false
namespace Go.Proofs.Ytcciejcpijlkfaa.H
open Go.RowKit Go.Hay Go.Proofs.YtcciejcpijlkfaaW.PrintWords Go.Proofs.YtcciejcpijlkfaaW.PrintLast Go.Proofs.YtcciejcpijlkfaaW.PrintMore
/-- a task. -/
structure Ts where
  regs : List Int
  hands : List (Bool × Int)
  wait : List (Int × Int)
  kids : Nat
  at_ : Int
def hd (T : Ts) (i : Int) : Bool × Int := T.hands.getD i.toNat (false, 0)
def lessV (a b : Int) : Int := if a < b then 1 else 0
def sameV (a b : Int) : Int := if a = b then 1 else 0
def newRegs (args : List Int) : List Int := args.take 8 ++ List.replicate (8 - args.length) 0
/-! ### a program that may run -/
/-- what an instruction's numbers may be. -/
structure IOk (l : List S68) (lc : Nat) (x : S65) : Prop where
  op : 1 ≤ x.f0 ∧ x.f0 ≤ 17
  a : x.f0 ≠ 9 → x.f0 ≠ 12 → x.f0 ≠ 13 → x.f0 ≠ 16 → 0 ≤ x.f1 ∧ x.f1 < 8
  a13 : x.f0 = 13 → 0 ≤ x.f1 ∧ x.f1 < 4
  b : (2 ≤ x.f0 ∧ x.f0 ≤ 8) ∨ x.f0 = 11 ∨ x.f0 = 13 → 0 ≤ x.f2 ∧ x.f2 < 8
  b14 : x.f0 = 14 → 0 ≤ x.f2 ∧ x.f2 < 4
  c : 3 ≤ x.f0 ∧ x.f0 ≤ 8 → 0 ≤ x.f3 ∧ x.f3 < 8
  cf : x.f0 = 11 ∨ x.f0 = 13 → 0 ≤ x.f3 ∧ x.f3 < l.length ∧ (rd_T68 l x.f3).f0 ≤ 8 - x.f2
  k : x.f0 = 9 ∨ x.f0 = 10 → 0 ≤ x.f4 ∧ x.f4 < lc
  kb : -2147483648 ≤ x.f4 ∧ x.f4 < 2147483648
structure POk (l : List S68) : Prop where
  len : 1 ≤ l.length ∧ l.length ≤ 16
  fn : ∀ f (h : f < l.length), (0 ≤ l[f].f0 ∧ l[f].f0 ≤ 4) ∧ (1 ≤ l[f].f1.length ∧ l[f].f1.length ≤ 64) ∧ (∀ k (hk : k < l[f].f1.length), IOk l l[f].f1.length l[f].f1[k]) ∧
    ((rd_T65 l[f].f1 ((l[f].f1.length : Int) - 1)).f0 = 9 ∨ (rd_T65 l[f].f1 ((l[f].f1.length : Int) - 1)).f0 = 16 ∨ (rd_T65 l[f].f1 ((l[f].f1.length : Int) - 1)).f0 = 17)
theorem fieldE_none {np lc : Nat} {n p : Int} (h : fieldE np lc n p = none) : (p = 1 → 0 ≤ n ∧ n < 8) ∧ (p = 2 → 0 ≤ n ∧ n < 4) ∧ (p = 3 → 0 ≤ n ∧ n < np) ∧ (p = 5 → 0 ≤ n ∧ n < lc) ∧ (p = 6 → 16 ≤ n ∧ n < 2147483648) ∧ (p = 4 → -2147483648 ≤ n ∧ n < 2147483648) := by
  unfold fieldE at h
  refine ⟨fun e => ?_, fun e => ?_, fun e => ?_, fun e => ?_, fun e => ?_, fun e => ?_⟩
  all_goals
    subst e
    simp [inB] at h
    omega
theorem instrE_ok {l : List S68} {lc : Nat} {x : S65} (hlc : lc ≤ 1000) (h : instrE lc l x = none) : IOk l lc x := by
  obtain ⟨a, b, c, k, is, hsh⟩ : ∃ a b c k is, shapeP x.f0 = (a, b, c, k, is) := ⟨_, _, _, _, _, rfl⟩
  rw [instrE_eq hsh] at h
  by_cases his : is = false
  · rw [if_pos his] at h; cases h
  rw [if_neg his] at h
  by_cases h1 : a = 0 ∧ x.f1 ≠ 0
  · rw [if_pos h1] at h; cases h
  by_cases h2 : b = 0 ∧ x.f2 ≠ 0
  · rw [if_neg h1, if_pos h2] at h; cases h
  by_cases h3 : c = 0 ∧ x.f3 ≠ 0
  · rw [if_neg h1, if_neg h2, if_pos h3] at h; cases h
  by_cases h4 : k = 0 ∧ x.f4 ≠ 0
  · rw [if_neg h1, if_neg h2, if_neg h3, if_pos h4] at h; cases h
  rw [if_neg h1, if_neg h2, if_neg h3, if_neg h4] at h
  simp only [Option.or_eq_none_iff] at h
  obtain ⟨ha, hb, hc, hk, har⟩ := h
  have fa := fieldE_none ha
  have fb := fieldE_none hb
  have fc := fieldE_none hc
  have fk := fieldE_none hk
  clear ha hb hc hk
  have hop : 1 ≤ x.f0 ∧ x.f0 ≤ 17 := by
    by_cases ho : 1 ≤ x.f0 ∧ x.f0 ≤ 17
    · exact ho
    · exfalso
      have : shapeP x.f0 = (0, 0, 0, 0, false) := by
        unfold shapeP
        repeat (first | rw [if_neg (by omega)])
      rw [this] at hsh; cases hsh; exact his rfl
  have hcases : x.f0 = 1 ∨ x.f0 = 2 ∨ x.f0 = 3 ∨ x.f0 = 4 ∨ x.f0 = 5 ∨ x.f0 = 6 ∨ x.f0 = 7 ∨ x.f0 = 8 ∨ x.f0 = 9 ∨ x.f0 = 10 ∨ x.f0 = 11 ∨ x.f0 = 12 ∨ x.f0 = 13 ∨ x.f0 = 14 ∨ x.f0 = 15 ∨ x.f0 = 16 ∨ x.f0 = 17 := by omega
  have hari : c = 3 → (rd_T68 l x.f3).f0 ≤ 8 - x.f2 := by
    intro e
    unfold arityE at har
    rw [if_pos e] at har
    split at har
    · assumption
    · cases har
  clear har his
  rcases hcases with e | e | e | e | e | e | e | e | e | e | e | e | e | e | e | e | e
  all_goals
    rw [e] at hsh
    simp [shapeP] at hsh
    obtain ⟨rfl, rfl, rfl, rfl, _⟩ := hsh
    simp at fa fb fc fk h1 h2 h3 h4 hari
    refine ⟨by omega, fun _ _ _ _ => ?_, fun _ => ?_, fun _ => ?_, fun _ => ?_, fun _ => ?_, fun _ => ?_, fun _ => ?_, ?_⟩
    all_goals first | omega | (refine ⟨?_, ?_, ?_⟩ <;> omega)
theorem instrsE_none {lc : Nat} {l : List S68} {xs : List S65} : ∀ {k : Nat}, instrsE lc l k xs = none → ∀ j (h : j < xs.length), instrE lc l xs[j] = none := by
  induction xs with
  | nil => intro k _ j h; simp at h
  | cons x r ih =>
    intro k h j hj
    simp only [instrsE] at h
    cases hx : instrE lc l x with
    | some e => rw [hx] at h; cases h
    | none =>
      rw [hx] at h
      cases j with
      | zero => exact hx
      | succ j => exact ih h j (by simpa using hj)
theorem funcE_ok {l : List S68} {g : S68} (h : funcE l g = none) : (0 ≤ g.f0 ∧ g.f0 ≤ 4) ∧ (1 ≤ g.f1.length ∧ g.f1.length ≤ 64) ∧ (∀ k (hk : k < g.f1.length), IOk l g.f1.length g.f1[k]) ∧
    ((rd_T65 g.f1 ((g.f1.length : Int) - 1)).f0 = 9 ∨ (rd_T65 g.f1 ((g.f1.length : Int) - 1)).f0 = 16 ∨ (rd_T65 g.f1 ((g.f1.length : Int) - 1)).f0 = 17) := by
  unfold funcE at h
  split at h
  · rename_i h1
    split at h
    · rename_i h2
      rw [Option.or_eq_none_iff] at h
      refine ⟨h1, h2, fun k hk => instrE_ok (by omega) (instrsE_none h.1 k hk), ?_⟩
      have h3 := h.2
      unfold lastE at h3
      simp only at h3
      split at h3
      · assumption
      · cases h3
    · cases h
  · cases h
theorem funcsE_none {l : List S68} {gs : List S68} : ∀ {f : Nat}, funcsE l f gs = none → ∀ j (h : j < gs.length), funcE l gs[j] = none := by
  induction gs with
  | nil => intro f _ j h; simp at h
  | cons g r ih =>
    intro f h j hj
    simp only [funcsE] at h
    cases hx : funcE l g with
    | some e => rw [hx] at h; cases h
    | none =>
      rw [hx] at h
      cases j with
      | zero => exact hx
      | succ j => exact ih h j (by simpa using hj)
theorem fieldE_code {np lc : Nat} {n p e : Int} (h : fieldE np lc n p = some e) : e ≠ 0 := by
  unfold fieldE at h
  repeat' split at h
  all_goals first | (cases h; done) | (injection h with h; omega)
theorem instrE_code {l : List S68} {lc : Nat} {x : S65} {e : Int} (h : instrE lc l x = some e) : e ≠ 0 := by
  obtain ⟨a, b, c, k, is, hsh⟩ : ∃ a b c k is, shapeP x.f0 = (a, b, c, k, is) := ⟨_, _, _, _, _, rfl⟩
  rw [instrE_eq hsh] at h
  repeat' split at h
  all_goals try (injection h with h; omega)
  cases ha : fieldE l.length lc x.f1 a with
  | some y => rw [ha] at h; injection h with h; rw [← h]; exact fieldE_code ha
  | none =>
    cases hb : fieldE l.length lc x.f2 b with
    | some y => rw [ha, hb] at h; injection h with h; rw [← h]; exact fieldE_code hb
    | none =>
      cases hc : fieldE l.length lc x.f3 c with
      | some y => rw [ha, hb, hc] at h; injection h with h; rw [← h]; exact fieldE_code hc
      | none =>
        cases hk : fieldE l.length lc x.f4 k with
        | some y => rw [ha, hb, hc, hk] at h; injection h with h; rw [← h]; exact fieldE_code hk
        | none =>
          rw [ha, hb, hc, hk] at h
          have h : arityE l x c = some e := h
          unfold arityE at h
          repeat' split at h
          all_goals first | (cases h; done) | (injection h with h; omega)
theorem instrsE_code {lc : Nat} {l : List S68} {xs : List S65} : ∀ {k : Nat} {e : Int × Int}, instrsE lc l k xs = some e → e.2 ≠ 0 := by
  induction xs with
  | nil => intro k e h; simp [instrsE] at h
  | cons x r ih =>
    intro k e h
    simp only [instrsE] at h
    cases hx : instrE lc l x with
    | some y => rw [hx] at h; injection h with h; rw [← h]; exact instrE_code hx
    | none => rw [hx] at h; exact ih h
theorem funcE_code {l : List S68} {g : S68} {e : Int × Int} (h : funcE l g = some e) : e.2 ≠ 0 := by
  unfold funcE at h
  split at h
  · split at h
    · cases hi : instrsE g.f1.length l 0 g.f1 with
      | some y => rw [hi] at h; injection h with h; rw [← h]; exact instrsE_code hi
      | none =>
        rw [hi] at h
        have h : lastE g = some e := h
        unfold lastE at h
        simp only at h
        split at h
        · cases h
        · injection h with h; rw [← h]; show (11 : Int) ≠ 0; decide
    · injection h with h; rw [← h]; decide
  · injection h with h; rw [← h]; decide
theorem funcsE_code {l : List S68} {gs : List S68} : ∀ {f : Nat} {e : Int × Int × Int}, funcsE l f gs = some e → e.2.2 ≠ 0 := by
  induction gs with
  | nil => intro f e h; simp [funcsE] at h
  | cons g r ih =>
    intro f e h
    simp only [funcsE] at h
    cases hx : funcE l g with
    | some y => rw [hx] at h; injection h with h; rw [← h]; exact funcE_code hx
    | none => rw [hx] at h; exact ih h
/-- what the check passes may run. -/
theorem check_ok {l : List S68} (h : (checkP l).2.2 = 0) : POk l := by
  unfold checkP at h
  split at h
  · rename_i hl
    cases hf : funcsE l 0 l with
    | some e => rw [hf] at h; exact absurd h (funcsE_code hf)
    | none => exact ⟨hl, fun f hfl => funcE_ok (funcsE_none hf f hfl)⟩
  · cases h
end Go.Proofs.Ytcciejcpijlkfaa.H

set_option linter.unusedVariables false
set_option linter.unusedSimpArgs false
namespace Go.Proofs.Ytcciejcpijlkfaa.H
open Go.RowKit Go.Hay Go.Proofs.YtcciejcpijlkfaaW.PrintWords Go.Proofs.YtcciejcpijlkfaaW.PrintLast Go.Proofs.YtcciejcpijlkfaaW.PrintMore
structure Fr where
  fn : Int
  at_ : Int
  steps : Int
  kids : Int
  path : List Int
  regs : List Int
  hands : List Int
structure Ef where
  kind : Int
  value : Int
  reg : Int
  fn : Int
  hand : Int
  why : Int
  args : List Int
  path : List Int
def efZ : Ef := ⟨0, 0, 0, 0, 0, 0, [], []⟩
def efGoes : Ef := ⟨1, 0, 0, 0, 0, 0, [], []⟩
def efFails (why : Int) : Ef := ⟨8, 0, 0, 0, 0, why, [], []⟩
def fR (F : Fr) (i : Int) : Int := F.regs.getD i.toNat 0
def fH (F : Fr) (i : Int) : Int := F.hands.getD i.toNat 0
def fSet (F : Fr) (i v : Int) : Fr := { F with regs := F.regs.set i.toNat v }
def reckonP (op a b : Int) : Option Int :=
  if op = 3 then some (wrap64 (a + b))
  else if op = 4 then some (wrap64 (a - b))
  else if op = 5 then some (wrap64 (a * b))
  else if op = 6 then (if b = 0 then none else some (wrap64 (a.tdiv b)))
  else if op = 7 then some (lessV a b)
  else some (sameV a b)
def argsF (l : List S68) (x : S65) (F : Fr) : List Int := (F.regs.drop x.f2.toNat).take (rd_T68 l x.f3).f0.toNat
/-- a task that is begun. -/
def beginF (l : List S68) (d : Int) (x : S65) (F : Fr) (kind reg hand : Int) : Ef × Fr :=
  if d ≤ (F.path.length : Int) then (efFails 4, F)
  else (⟨kind, 0, reg, x.f3, hand, 0, argsF l x F, F.path ++ [F.kids]⟩, { F with kids := wrap64 (F.kids + 1) })
/-- an instruction, behind the counting. -/
def doF (l : List S68) (d : Int) (x : S65) (F : Fr) : Ef × Fr :=
  if x.f0 = 1 then (efGoes, fSet F x.f1 x.f4)
  else if x.f0 = 2 then (efGoes, fSet F x.f1 (fR F x.f2))
  else if x.f0 ≤ 8 then (match reckonP x.f0 (fR F x.f2) (fR F x.f3) with | some n => (efGoes, fSet F x.f1 n) | none => (efFails 1, F))
  else if x.f0 = 9 then (efGoes, { F with at_ := x.f4 })
  else if x.f0 = 10 then (efGoes, if fR F x.f1 = 0 then { F with at_ := x.f4 } else F)
  else if x.f0 = 11 then beginF l d x F 3 x.f1 0
  else if x.f0 = 12 then (⟨5, 0, 0, 0, 0, 0, [], []⟩, F)
  else if x.f0 = 13 then beginF l d x F 4 0 x.f1
  else if x.f0 = 14 then (if fH F x.f2 = 0 then (efFails 2, F) else (⟨6, 0, x.f1, 0, fH F x.f2, 0, [], []⟩, F))
  else if x.f0 = 15 then (⟨2, fR F x.f1, 0, 0, 0, 0, [], []⟩, F)
  else if x.f0 = 16 then (efFails x.f4, F)
  else (⟨7, 0, x.f1, 0, 0, 0, [], []⟩, F)
/-- may a program run with such limits? -/
def frRight (l : List S68) (b d : Int) : Bool := decide ((checkP l).2.2 = 0 ∧ (1 ≤ b ∧ b ≤ 10000) ∧ (0 ≤ d ∧ d ≤ 30))
/-- is an instruction there? -/
def thereP (l : List S68) (F : Fr) : Bool := decide ((0 ≤ F.fn ∧ F.fn < l.length) ∧ 0 ≤ F.at_ ∧ F.at_ < (rd_T68 l F.fn).f1.length)
def instrF (l : List S68) (F : Fr) : S65 := rd_T65 (rd_T68 l F.fn).f1 F.at_
def stepF (F : Fr) : Fr := { F with steps := F.steps + 1, at_ := F.at_ + 1 }
/-- what Exec answers: the effect, the error, the frame. -/
def execP (l : List S68) (b d : Int) (F : Fr) : Ef × Int × Fr :=
  if frRight l b d = true then
    if thereP l F = true then
      if b ≤ F.steps then (efFails 3, 0, F) else ((doF l d (instrF l F) (stepF F)).1, 0, (doF l d (instrF l F) (stepF F)).2)
    else (efZ, 11, F)
  else (efZ, 1, F)
def newFr (fn : Int) (path args hands : List Int) : Fr := ⟨fn, 0, 0, 0, path, newRegs args, hands⟩
theorem newRegsF_len (args : List Int) : (newRegs args).length = 8 := by
  unfold newRegs
  rw [List.length_append, List.length_take, List.length_replicate]
  omega
theorem ite_ind {α : Type} {P : α → Prop} {c : Prop} [Decidable c] {a b : α} (ha : P a) (hb : P b) : P (if c then a else b) := by
  split
  · exact ha
  · exact hb
def SameP (F : Fr) (r : Ef × Fr) : Prop := r.2.path = F.path ∧ r.2.steps = F.steps
theorem SameP.of {F : Fr} {e : Ef} {F1 : Fr} (h1 : F1.path = F.path) (h2 : F1.steps = F.steps) : SameP F (e, F1) := ⟨h1, h2⟩
theorem doF_path (l : List S68) (d : Int) (x : S65) (F : Fr) : SameP F (doF l d x F) := by
  have hb : ∀ k r h, SameP F (beginF l d x F k r h) := fun k r h => by
    unfold beginF
    exact ite_ind (.of rfl rfl) (.of rfl rfl)
  have hr : SameP F (match reckonP x.f0 (fR F x.f2) (fR F x.f3) with | some n => (efGoes, fSet F x.f1 n) | none => (efFails 1, F)) := by
    cases reckonP x.f0 (fR F x.f2) (fR F x.f3) <;> exact .of rfl rfl
  have hz : SameP F (efGoes, if fR F x.f1 = 0 then { F with at_ := x.f4 } else F) := by
    by_cases h : fR F x.f1 = 0
    · rw [if_pos h]; exact .of rfl rfl
    · rw [if_neg h]; exact .of rfl rfl
  unfold doF
  exact ite_ind (.of rfl rfl) (ite_ind (.of rfl rfl) (ite_ind hr (ite_ind (.of rfl rfl) (ite_ind hz (ite_ind (hb _ _ _) (ite_ind (.of rfl rfl) (ite_ind (hb _ _ _) (ite_ind (ite_ind (.of rfl rfl) (.of rfl rfl)) (ite_ind (.of rfl rfl) (ite_ind (.of rfl rfl) (.of rfl rfl)))))))))))
theorem execP_path (l : List S68) (b d : Int) (F : Fr) : (execP l b d F).2.2.path = F.path ∧ F.steps ≤ (execP l b d F).2.2.steps := by
  unfold execP
  by_cases h1 : frRight l b d = true
  · rw [if_pos h1]
    by_cases h2 : thereP l F = true
    · rw [if_pos h2]
      by_cases h3 : b ≤ F.steps
      · rw [if_pos h3]; exact ⟨rfl, Int.le_refl _⟩
      · rw [if_neg h3]
        obtain ⟨e1, e2⟩ := doF_path l d (instrF l F) (stepF F)
        exact ⟨e1, by show F.steps ≤ (doF l d (instrF l F) (stepF F)).2.steps; rw [e2]; show F.steps ≤ F.steps + 1; omega⟩
    · rw [if_neg h2]; exact ⟨rfl, Int.le_refl _⟩
  · rw [if_neg h1]; exact ⟨rfl, Int.le_refl _⟩
end Go.Proofs.Ytcciejcpijlkfaa.H

set_option linter.unusedVariables false
set_option linter.unusedSimpArgs false
namespace Go.Hay
open Go.RowKit
inductive Turn2 where
  | take (i : Nat)
  | op (i : Nat)
  | fin (i : Nat)
  | pair (i j : Nat)
  | tri (i k j : Nat)
  | rooms (l : List Nat)
def Turn2.many : Turn2 → Nat
  | .pair _ _ => 2
  | .tri _ _ _ => 3
  | .rooms l => l.length
  | _ => 1
def many2 : List Turn2 → Nat
  | [] => 0
  | t :: r => many2 r + t.many
/-! ### rooms: operations that come in any order, each with what it yields and the blocks that it owns -/
def dstOf (ops : Array Oper) (i : Nat) : Option Tmp := (ops[i]?).bind (·.dst)
theorem put_put {a : Act} {d e : Option Tmp} (h : d ≠ e) (x y : Value) : (a.put d x).put e y = (a.put e y).put d x := by
  cases d with
  | none => rfl
  | some d =>
    cases e with
    | none => rfl
    | some e =>
      simp only [Act.put]
      rw [Array.setIfInBounds_comm _ _ (fun he => h (congrArg some he))]
def putE (ops : Array Oper) : List Nat → (Nat → Bool) → (Nat → Value) → Act → Act
  | [], _, _, a => a
  | i :: l, ex, vals, a => putE ops l ex vals (if ex i = true then a.put (dstOf ops i) (vals i) else a)
theorem putE_put (ops : Array Oper) (ex : Nat → Bool) (vals : Nat → Value) (d : Option Tmp) (v : Value) : ∀ (l : List Nat) (a : Act), (∀ i ∈ l, dstOf ops i ≠ d) → (putE ops l ex vals a).put d v = putE ops l ex vals (a.put d v)
  | [], _, _ => rfl
  | i :: l, a, h => by
    rw [putE, putE, putE_put ops ex vals d v l _ (fun j hj => h j (List.mem_cons_of_mem _ hj))]
    congr 1
    split
    · exact put_put (h i (List.mem_cons_self ..)) _ _
    · rfl
theorem putE_congr (ops : Array Oper) {ex ex' : Nat → Bool} {vals vals' : Nat → Value} : ∀ (l : List Nat) (a : Act), (∀ i ∈ l, ex i = ex' i ∧ (ex i = true → vals i = vals' i)) → putE ops l ex vals a = putE ops l ex' vals' a
  | [], _, _ => rfl
  | i :: l, a, h => by
    have h1 := h i (List.mem_cons_self ..)
    rw [putE, putE, ← h1.1]
    rw [putE_congr ops l _ (fun j hj => h j (List.mem_cons_of_mem _ hj))]
    congr 1
    split
    · rename_i he; rw [h1.2 he]
    · rfl
def upd {α : Type} (f : Nat → α) (i : Nat) (x : α) : Nat → α := fun j => if j = i then x else f j
theorem upd_same {α : Type} (f : Nat → α) (i : Nat) (x : α) : upd f i x i = x := by simp [upd]
theorem upd_ne {α : Type} (f : Nat → α) {i j : Nat} (x : α) (h : j ≠ i) : upd f i x j = f j := by simp [upd, h]
theorem putE_set (ops : Array Oper) (ex : Nat → Bool) (vals : Nat → Value) (i : Nat) (v : Value) : ∀ (l : List Nat) (a : Act), (l.map (dstOf ops)).Nodup → i ∈ l → ex i = false → (putE ops l ex vals a).put (dstOf ops i) v = putE ops l (upd ex i true) (upd vals i v) a
  | [], _, _, h, _ => by cases h
  | j :: l, a, hn, h, he => by
    rw [List.map_cons, List.nodup_cons] at hn
    by_cases hij : i = j
    · subst hij
      have hni : ∀ k ∈ l, k ≠ i := fun k hk e => hn.1 (by rw [← e]; exact List.mem_map_of_mem hk)
      rw [putE, putE, he, upd_same, upd_same, if_neg (by simp), if_pos rfl, putE_put ops ex vals _ v l a (fun k hk e => hn.1 (by rw [← e]; exact List.mem_map_of_mem hk))]
      exact putE_congr ops l _ (fun k hk => ⟨(upd_ne _ _ (hni k hk)).symm, fun _ => (upd_ne _ _ (hni k hk)).symm⟩)
    · have hi : i ∈ l := by
        rcases List.mem_cons.1 h with h | h
        · exact absurd h hij
        · exact h
      rw [putE, putE, upd_ne _ _ (Ne.symm hij), upd_ne _ _ (Ne.symm hij)]
      exact putE_set ops ex vals i v l _ hn.2 hi he
theorem put_size (a : Act) (d : Option Tmp) (v : Value) : (a.put d v).tmps.size = a.tmps.size := by cases d <;> simp [Act.put]
theorem putE_other (ops : Array Oper) (ex : Nat → Bool) (vals : Nat → Value) (t : Nat) : ∀ (l : List Nat) (a : Act), (∀ j ∈ l, dstOf ops j ≠ some t) → (putE ops l ex vals a).tmps.getD t undef = a.tmps.getD t undef
  | [], _, _ => rfl
  | i :: l, a, h => by
    rw [putE, putE_other ops ex vals t l _ (fun j hj => h j (List.mem_cons_of_mem _ hj))]
    split
    · exact put_getD (h i (List.mem_cons_self ..))
    · rfl
theorem putE_at (ops : Array Oper) (ex : Nat → Bool) (vals : Nat → Value) (i t : Nat) : ∀ (l : List Nat) (a : Act), (l.map (dstOf ops)).Nodup → i ∈ l → ex i = true → dstOf ops i = some t → t < a.tmps.size → (putE ops l ex vals a).tmps.getD t undef = vals i
  | [], _, _, h, _, _, _ => by cases h
  | j :: l, a, hn, h, he, hd, ht => by
    rw [List.map_cons, List.nodup_cons] at hn
    rw [putE]
    by_cases hij : i = j
    · subst hij
      rw [putE_other ops ex vals t l _ (fun k hk e => hn.1 (by rw [hd, ← e]; exact List.mem_map_of_mem hk)), if_pos he, hd]
      simp [Act.put, ht]
    · have hi : i ∈ l := by
        rcases List.mem_cons.1 h with h | h
        · exact absurd h hij
        · exact h
      exact putE_at ops ex vals i t l _ hn.2 hi he hd (by split <;> simpa [put_size] using ht)
structure Rooms (P : Program) (ops : Array Oper) (Q : Exit → Act → World → Prop) (S : World → Prop) (l : List Nat) (a : Act) (F : Nat → Value → (Nat → Prop) → World → Prop) : Prop where
  stable : ∀ (i : Nat) (v : Value) (B : Nat → Prop) (w w' : World), F i v B w → S w' → w.heap.size ≤ w'.heap.size → (∀ k, B k → w'.heap[k]? = w.heap[k]?) → F i v B w'
  step : ∀ i ∈ l, ∀ (vals : Nat → Value) (B : Nat → Nat → Prop) (w : World) (a' : Act), S w →
    (∀ d, d ∈ l → d ∈ depsAt .any ops i → F d (vals d) (B d) w ∧ ∀ k, B d k → k < w.heap.size) →
    (∀ d d', d ∈ l → d' ∈ l → d ∈ depsAt .any ops i → d' ∈ depsAt .any ops i → d ≠ d' → ∀ k, B d k → ¬ B d' k) →
    (∀ t, (∀ j ∈ l, dstOf ops j ≠ some t) → a'.tmps.getD t undef = a.tmps.getD t undef) →
    (∀ d, d ∈ l → d ∈ depsAt .any ops i → ∀ t, dstOf ops d = some t → t < a.tmps.size → a'.tmps.getD t undef = vals d) →
    wpOp P ops Q i (fun a'' w'' => ∃ v B', a'' = a'.put (dstOf ops i) v ∧ S w'' ∧ w.heap.size ≤ w''.heap.size ∧ F i v B' w'' ∧ (∀ k, B' k → k < w''.heap.size ∧ (w.heap.size ≤ k ∨ ∃ d, d ∈ l ∧ d ∈ depsAt .any ops i ∧ B d k)) ∧
      ∀ k, k < w.heap.size → (∀ d, d ∈ l → d ∈ depsAt .any ops i → ¬ B d k) → w''.heap[k]? = w.heap[k]?) a' w
/-- the same, with what a closed reckoning decides. -/
def isDep (ops : Array Oper) (l : List Nat) (i d : Nat) : Bool := l.contains d && (depsAt .any ops i).contains d
theorem isDep_iff {ops : Array Oper} {l : List Nat} {i d : Nat} : isDep ops l i d = true ↔ d ∈ l ∧ d ∈ depsAt .any ops i := by simp [isDep]
theorem Rooms.of {P : Program} {ops : Array Oper} {Q : Exit → Act → World → Prop} {S : World → Prop} {l : List Nat} {a : Act} {F : Nat → Value → (Nat → Prop) → World → Prop}
    (stable : ∀ (i : Nat) (v : Value) (B : Nat → Prop) (w w' : World), F i v B w → S w' → w.heap.size ≤ w'.heap.size → (∀ k, B k → w'.heap[k]? = w.heap[k]?) → F i v B w')
    (step : ∀ i ∈ l, ∀ (vals : Nat → Value) (B : Nat → Nat → Prop) (w : World) (a' : Act), S w →
      (∀ d, isDep ops l i d = true → F d (vals d) (B d) w ∧ ∀ k, B d k → k < w.heap.size) →
      (∀ d d', isDep ops l i d = true → isDep ops l i d' = true → d ≠ d' → ∀ k, B d k → ¬ B d' k) →
      (∀ t, (l.all fun j => dstOf ops j != some t) = true → a'.tmps.getD t undef = a.tmps.getD t undef) →
      (∀ d t, isDep ops l i d = true → (dstOf ops d == some t && Nat.ble (t + 1) a.tmps.size) = true → a'.tmps.getD t undef = vals d) →
      wpOp P ops Q i (fun a'' w'' => ∃ v B', a'' = a'.put (dstOf ops i) v ∧ S w'' ∧ w.heap.size ≤ w''.heap.size ∧ F i v B' w'' ∧ (∀ k, B' k → k < w''.heap.size ∧ (w.heap.size ≤ k ∨ ∃ d, isDep ops l i d = true ∧ B d k)) ∧
        ∀ k, k < w.heap.size → (∀ d, isDep ops l i d = true → ¬ B d k) → w''.heap[k]? = w.heap[k]?) a' w) : Rooms P ops Q S l a F := by
  refine ⟨stable, fun i hi vals B w a' hS h1 h2 h3 h4 => ?_⟩
  refine wpOp_mono (fun a'' w'' hx => ?_) (step i hi vals B w a' hS (fun d hd => h1 d (isDep_iff.1 hd).1 (isDep_iff.1 hd).2) (fun d d' hd hd' => h2 d d' (isDep_iff.1 hd).1 (isDep_iff.1 hd').1 (isDep_iff.1 hd).2 (isDep_iff.1 hd').2)
    (fun t ht => h3 t (fun j hj => by simpa using List.all_eq_true.1 ht j hj)) (fun d t hd ht => by
      simp only [Bool.and_eq_true, beq_iff_eq] at ht
      exact h4 d (isDep_iff.1 hd).1 (isDep_iff.1 hd).2 t ht.1 (Nat.le_of_ble_eq_true ht.2)))
  obtain ⟨v, B', e, q1, q2, q3, q4, q5⟩ := hx
  exact ⟨v, B', e, q1, q2, q3, fun k hk => ⟨(q4 k hk).1, (q4 k hk).2.imp id (fun ⟨d, hd, hb⟩ => ⟨d, (isDep_iff.1 hd).1, (isDep_iff.1 hd).2, hb⟩)⟩, fun k hk hn => q5 k hk (fun d hd => hn d (isDep_iff.1 hd).1 (isDep_iff.1 hd).2)⟩
/-- what is left behind them all. -/
structure Left (ops : Array Oper) (l : List Nat) (F : Nat → Value → (Nat → Prop) → World → Prop) (w0 : World) (vals : Nat → Value) (B : Nat → Nat → Prop) (w : World) : Prop where
  size : w0.heap.size ≤ w.heap.size
  fact : ∀ i ∈ l, (∀ j ∈ l, i ∉ depsAt .any ops j) → F i (vals i) (B i) w ∧ ∀ k, B i k → k < w.heap.size
  apart : ∀ i i', i ∈ l → i' ∈ l → (∀ j ∈ l, i ∉ depsAt .any ops j) → (∀ j ∈ l, i' ∉ depsAt .any ops j) → i ≠ i' → ∀ k, B i k → ¬ B i' k
def okRooms (ops : Array Oper) (l : List Nat) (listed : Array Bool) : Bool :=
  decide ((l.map (dstOf ops)).Nodup) &&
  l.all (fun i => decide (i < ops.size) && !listed.getD i true && (depsAt .any ops i).all (fun d => decide (d < i) && (listed.getD d false || l.contains d))) &&
  l.all (fun i => l.all fun i' => i == i' || (depsAt .any ops i).all fun d => !(l.contains d) || !((depsAt .any ops i').contains d)) &&
  (List.range ops.size).all (fun j => listed.getD j true || l.contains j || l.all fun i => (depsAt .any ops j).contains i)
section
variable {P : Program} {md : Region.Mode} {ops : Array Oper} {Q : Exit → Act → World → Prop} {S : World → Prop} {F : List Nat}
def runSeq2 (P : Program) (ops : Array Oper) (Q : Exit → Act → World → Prop) (S : World → Prop) : List Turn2 → Act → World → Prop
  | [], a, w => Q .normal a w
  | .take i :: r, a, w => ∃ o v, ops[i]? = some o ∧ YieldsIf P ops S o v a ∧ S w ∧ runSeq2 P ops Q S r (a.put o.dst v) w
  | .op i :: r, a, w => wpOp P ops Q i (fun a' w' => S w' ∧ runSeq2 P ops Q S r a' w') a w
  | .fin i :: r, a, w => wpOp P ops Q i (fun a' w' => runSeq2 P ops Q S r a' w') a w
  | .pair i j :: r, a, w => wpOp P ops Q i (fun a' w' => S w' ∧ wpOp P ops Q j (fun a' w' => S w' ∧ runSeq2 P ops Q S r a' w') a' w') a w ∧
      wpOp P ops Q j (fun a' w' => S w' ∧ wpOp P ops Q i (fun a' w' => S w' ∧ runSeq2 P ops Q S r a' w') a' w') a w
  | .tri i k j :: r, a, w => wpOp P ops Q i (fun a' w' => S w' ∧ (wpOp P ops Q k (fun a' w' => S w' ∧ wpOp P ops Q j (fun a' w' => S w' ∧ runSeq2 P ops Q S r a' w') a' w') a' w' ∧
        wpOp P ops Q j (fun a' w' => S w' ∧ wpOp P ops Q k (fun a' w' => S w' ∧ runSeq2 P ops Q S r a' w') a' w') a' w')) a w ∧
      wpOp P ops Q j (fun a' w' => S w' ∧ wpOp P ops Q i (fun a' w' => S w' ∧ wpOp P ops Q k (fun a' w' => S w' ∧ runSeq2 P ops Q S r a' w') a' w') a' w') a w
  | .rooms l :: r, a, w => ∃ F, Rooms P ops Q S l a F ∧ S w ∧ ∀ vals B w', S w' → Left ops l F w vals B w' → runSeq2 P ops Q S r (putE ops l (fun _ => true) vals a) w'
def okSeq2 (md : Region.Mode) (ops : Array Oper) (F : List Nat) : List Turn2 → Array Bool → Bool
  | [], listed => (Region.ready md ops listed).isEmpty
  | .take i :: r, listed => (Region.ready md ops listed).contains i && Region.free md ops listed i && blocks md ops F i && !F.contains i && okSeq2 md ops F r (listed.setIfInBounds i true)
  | .op i :: r, listed => (Region.ready md ops listed == [i]) && okSeq2 md ops F r (listed.setIfInBounds i true)
  | .fin i :: r, listed => (Region.ready md ops listed == [i]) && F.contains i && okSeq2 md ops F r (listed.setIfInBounds i true)
  | .pair i j :: r, listed => (Region.ready md ops listed == [i, j]) && i != j && (Region.ready md ops (listed.setIfInBounds i true) == [j]) && (Region.ready md ops (listed.setIfInBounds j true) == [i]) &&
      okSeq2 md ops F r ((listed.setIfInBounds i true).setIfInBounds j true)
  | .tri i k j :: r, listed => (Region.ready md ops listed == [i, j]) && i != j && k != j && (Region.ready md ops (listed.setIfInBounds i true) == [k, j]) && (Region.ready md ops (listed.setIfInBounds j true) == [i]) &&
      (Region.ready md ops ((listed.setIfInBounds i true).setIfInBounds k true) == [j]) && (Region.ready md ops ((listed.setIfInBounds i true).setIfInBounds j true) == [k]) &&
      okSeq2 md ops F r (((listed.setIfInBounds i true).setIfInBounds k true).setIfInBounds j true)
  | .rooms l :: r, listed => (md == .any) && okRooms ops l listed && okSeq2 md ops F r (l.foldl (fun x i => x.setIfInBounds i true) listed)
theorem wpAnyF_one {i : Nat} {fuel : Nat} {listed : Array Bool} {a : Act} {w : World} (hr : Region.ready md ops listed = [i])
    (h : wpOp P ops Q i (fun a' w' => S w' ∧ wpAnyF P md ops Q S F fuel (listed.setIfInBounds i true) a' w') a w) : wpAnyF P md ops Q S F (fuel + 1) listed a w := by
  refine ⟨fun h0 => (by rw [hr] at h0; cases h0), fun k hk => ?_⟩
  have hki : k = i := by rw [hr] at hk; simpa using hk
  subst hki
  exact wpOp_mono (fun a' w' h' => ⟨fun _ => h'.1, h'.2⟩) h
theorem foldl_getD : ∀ (l : List Nat) (listed : Array Bool) (j : Nat) (d : Bool), (∀ i ∈ l, i < listed.size) → (l.foldl (fun x i => x.setIfInBounds i true) listed).getD j d = if j ∈ l then true else listed.getD j d
  | [], listed, j, d, _ => by simp
  | i :: l, listed, j, d, h => by
    rw [List.foldl_cons, foldl_getD l _ j d (fun k hk => by rw [Array.size_setIfInBounds]; exact h k (List.mem_cons_of_mem _ hk))]
    have hi := h i (List.mem_cons_self ..)
    by_cases hj : j ∈ l
    · rw [if_pos hj, if_pos (List.mem_cons_of_mem _ hj)]
    · rw [if_neg hj]
      by_cases e : j = i
      · subst e
        rw [if_pos (List.mem_cons_self ..)]
        simp [Array.getD, hi]
      · rw [if_neg (by simp [e, hj]), getD_set_ne d (Ne.symm e)]
theorem foldl_size : ∀ (l : List Nat) (listed : Array Bool), (l.foldl (fun x i => x.setIfInBounds i true) listed).size = listed.size
  | [], _ => rfl
  | i :: l, listed => by rw [List.foldl_cons, foldl_size l]; simp
theorem wpAnyF_rooms {l : List Nat} {listed0 : Array Bool} {a0 : Act} {w0 : World} {n : Nat} {Fc : Nat → Value → (Nat → Prop) → World → Prop} (hok : okRooms ops l listed0 = true) (R : Rooms P ops Q S l a0 Fc)
    (fin : ∀ vals B w', S w' → Left ops l Fc w0 vals B w' → wpAnyF P .any ops Q S F n (l.foldl (fun x i => x.setIfInBounds i true) listed0) (putE ops l (fun _ => true) vals a0) w') :
    ∀ (m : Nat) (listed : Array Bool) (ex : Nat → Bool) (vals : Nat → Value) (B : Nat → Nat → Prop) (w : World), (l.filter fun i => !ex i).length = m → Closed .any ops listed → listed.size = listed0.size →
      (∀ j d, listed.getD j d = if j ∈ l then (if ex j = true then true else listed0.getD j d) else listed0.getD j d) → S w → w0.heap.size ≤ w.heap.size →
      (∀ i ∈ l, ex i = true → (∀ j ∈ l, ex j = true → i ∉ depsAt .any ops j) → Fc i (vals i) (B i) w ∧ ∀ k, B i k → k < w.heap.size) →
      (∀ i i', i ∈ l → i' ∈ l → ex i = true → ex i' = true → (∀ j ∈ l, ex j = true → i ∉ depsAt .any ops j) → (∀ j ∈ l, ex j = true → i' ∉ depsAt .any ops j) → i ≠ i' → ∀ k, B i k → ¬ B i' k) →
      wpAnyF P .any ops Q S F (m + n) listed (putE ops l ex vals a0) w := by
  have hok' := hok
  simp only [okRooms, Bool.and_eq_true, decide_eq_true_eq] at hok'
  obtain ⟨⟨⟨hnd, h1⟩, h2⟩, h3⟩ := hok'
  have hin : ∀ i ∈ l, i < ops.size ∧ listed0.getD i true = false ∧ ∀ d ∈ depsAt .any ops i, d < i ∧ (listed0.getD d false = true ∨ d ∈ l) := fun i hi => by
    have := List.all_eq_true.1 h1 i hi
    simp only [Bool.and_eq_true, decide_eq_true_eq, Bool.not_eq_true'] at this
    exact ⟨this.1.1, this.1.2, fun d hd => by have := List.all_eq_true.1 this.2 d hd; simpa using this⟩
  have hone : ∀ i ∈ l, ∀ i' ∈ l, i ≠ i' → ∀ d ∈ l, d ∈ depsAt .any ops i → d ∉ depsAt .any ops i' := fun i hi i' hi' hne d hd hdi => by
    have := List.all_eq_true.1 (List.all_eq_true.1 h2 i hi) i' hi'
    simp only [Bool.or_eq_true, beq_iff_eq] at this
    rcases this with h | h
    · exact absurd h hne
    · have := List.all_eq_true.1 h d hdi
      simpa [hd] using this
  have hout : ∀ j, j < ops.size → listed0.getD j true = false → j ∉ l → ∀ i ∈ l, i ∈ depsAt .any ops j := fun j hj hl hn i hi => by
    have := List.all_eq_true.1 h3 j (List.mem_range.2 hj)
    simp only [Bool.or_eq_true] at this
    rcases this with (h | h) | h
    · rw [hl] at h; cases h
    · exact absurd (by simpa using h) hn
    · simpa using List.all_eq_true.1 h i hi
  have hln : l.Nodup := by
    have := List.pairwise_map.1 hnd
    exact this.imp (fun h e => h (by rw [e]))
  intro m
  induction m with
  | zero =>
    intro listed ex vals B w hm hcl hsz hlst hS hw hF hB
    have hall : ∀ i ∈ l, ex i = true := fun i hi => by
      cases he : ex i with
      | true => rfl
      | false => have : i ∈ l.filter (fun i => !ex i) := List.mem_filter.2 ⟨hi, by simp [he]⟩
                 rw [List.length_eq_zero_iff.1 hm] at this; cases this
    have e1 : listed = l.foldl (fun x i => x.setIfInBounds i true) listed0 := by
      apply Array.ext
      · rw [foldl_size, hsz]
      · intro j hj hj'
        have hd : ∀ (A : Array Bool) (h : j < A.size), A[j] = A.getD j false := fun A h => by simp [Array.getD, h]
        rw [hd _ hj, hd _ hj', hlst j false]
        have hb : ∀ i ∈ l, i < listed0.size := fun i hi => by
          have := (hin i hi).2.1
          by_cases hlt : i < listed0.size
          · exact hlt
          · simp [Array.getD, hlt] at this
        rw [foldl_getD l listed0 j false hb]
        by_cases hjl : j ∈ l
        · rw [if_pos hjl, if_pos (hall j hjl), if_pos hjl]
        · rw [if_neg hjl, if_neg hjl]
    have e2 : putE ops l ex vals a0 = putE ops l (fun _ => true) vals a0 := putE_congr ops l a0 (fun i hi => ⟨hall i hi, fun _ => rfl⟩)
    rw [e1, e2, Nat.zero_add]
    exact fin vals B w hS ⟨hw, fun i hi hn => hF i hi (hall i hi) (fun j hj _ => hn j hj), fun i i' hi hi' hn hn' => hB i i' hi hi' (hall i hi) (hall i' hi') (fun j hj _ => hn j hj) (fun j hj _ => hn' j hj)⟩
  | succ m ih =>
    intro listed ex vals B w hm hcl hsz hlst hS hw hF hB
    rw [show m + 1 + n = (m + n) + 1 by omega]
    have hex : ∃ i, i ∈ l ∧ ex i = false := by
      cases hf : l.filter (fun i => !ex i) with
      | nil => rw [hf] at hm; cases hm
      | cons i r =>
        have : i ∈ l.filter (fun i => !ex i) := by rw [hf]; exact List.mem_cons_self ..
        exact ⟨i, (List.mem_filter.1 this).1, by simpa using (List.mem_filter.1 this).2⟩
    have hready : ∀ i ∈ Region.ready .any ops listed, i ∈ l ∧ ex i = false := fun i hi => by
      have hun := (mem_ready.1 hi).1
      obtain ⟨_, o, ho, _⟩ := mem_ready.1 hi
      have hlt : i < ops.size := (Array.getElem?_eq_some_iff.1 ho).1
      rw [hlst i true] at hun
      by_cases hil : i ∈ l
      · rw [if_pos hil] at hun
        refine ⟨hil, ?_⟩
        cases he : ex i with
        | false => rfl
        | true => rw [he] at hun; simp at hun
      · rw [if_neg hil] at hun
        obtain ⟨j, hj, hje⟩ := hex
        have := Closed.ready_dep hi (hout i hlt hun hil j hj)
        rw [hlst j false, if_pos hj, hje] at this
        have h0 := getD_both (hin j hj).2.1
        simp [h0] at this
    refine ⟨fun h0 => ?_, fun i hi => ?_⟩
    · exfalso
      have key : ∀ (q : Nat) (i : Nat), i ≤ q → i ∈ l → ex i = false → ∃ i, i ∈ Region.ready .any ops listed := by
        intro q
        induction q with
        | zero =>
          intro i hq hi he
          obtain ⟨h4, h5, h6⟩ := hin i hi
          refine ⟨i, mem_ready.2 ⟨by rw [hlst i true, if_pos hi, he]; simpa using h5, ops[i], by simp [h4], fun e he2 hb => ?_⟩⟩
          have hd : e.on ∈ depsAt .any ops i := by
            unfold depsAt; rw [Array.getElem?_eq_getElem h4]
            exact List.mem_map.2 ⟨e, List.mem_filter.2 ⟨Array.mem_toList_iff.2 he2, hb⟩, rfl⟩
          have := (h6 _ hd).1
          omega
        | succ q ihq =>
          intro i hq hi he
          obtain ⟨h4, h5, h6⟩ := hin i hi
          by_cases hx : ∃ d, d ∈ depsAt .any ops i ∧ d ∈ l ∧ ex d = false
          · obtain ⟨d, hd, hdl, hde⟩ := hx
            have := (h6 d hd).1
            exact ihq d (by omega) hdl hde
          · refine ⟨i, mem_ready.2 ⟨by rw [hlst i true, if_pos hi, he]; simpa using h5, ops[i], by simp [h4], fun e he2 hb => ?_⟩⟩
            have hd : e.on ∈ depsAt .any ops i := by
              unfold depsAt; rw [Array.getElem?_eq_getElem h4]
              exact List.mem_map.2 ⟨e, List.mem_filter.2 ⟨Array.mem_toList_iff.2 he2, hb⟩, rfl⟩
            rw [hlst e.on false]
            by_cases hl : e.on ∈ l
            · rw [if_pos hl]
              cases hee : ex e.on with
              | true => simp
              | false => exact absurd ⟨_, hd, hl, hee⟩ hx
            · rw [if_neg hl]
              rcases (h6 _ hd).2 with h7 | h7
              · exact h7
              · exact absurd h7 hl
      obtain ⟨i, hi, he⟩ := hex
      obtain ⟨j, hj⟩ := key i i (Nat.le_refl _) hi he
      rw [h0] at hj; cases hj
    · obtain ⟨hil, hie⟩ := hready i hi
      have hdx : ∀ d, d ∈ l → d ∈ depsAt .any ops i → ex d = true := fun d hd hdi => by
        have := Closed.ready_dep hi hdi
        rw [hlst d false, if_pos hd] at this
        cases he : ex d with
        | true => rfl
        | false =>
          rw [he] at this
          have h0 := getD_both (hin d hd).2.1
          simp [h0] at this
      have hdu : ∀ d, d ∈ l → d ∈ depsAt .any ops i → ∀ j ∈ l, ex j = true → d ∉ depsAt .any ops j := fun d hd hdi j hj hje =>
        hone i hil j hj (fun e => by rw [e, hje] at hie; cases hie) d hd hdi
      have hst := R.step i hil vals B w (putE ops l ex vals a0) hS (fun d hd hdi => hF d hd (hdx d hd hdi) (hdu d hd hdi))
        (fun d d' hd hd' hdi hdi' hne => hB d d' hd hd' (hdx d hd hdi) (hdx d' hd' hdi') (hdu d hd hdi) (hdu d' hd' hdi') hne)
        (fun t ht => putE_other ops ex vals t l a0 ht)
        (fun d hd hdi t hdt htl => putE_at ops ex vals d t l a0 hnd hd (hdx d hd hdi) hdt htl)
      refine wpOp_mono (fun a'' w'' hx => ?_) hst
      obtain ⟨v, B', rfl, hS', hsz', hFi, hBi, hkeep⟩ := hx
      refine ⟨fun _ => hS', ?_⟩
      rw [putE_set ops ex vals i v l a0 hnd hil hie]
      have hexi : ∀ j, upd ex i true j = true → j ≠ i → ex j = true := fun j h hne => by rwa [upd_ne _ _ hne] at h
      refine ih (listed.setIfInBounds i true) (upd ex i true) (upd vals i v) (upd B i B') w'' ?_ (hcl.set hi) (by simp [hsz]) (fun j d => ?_) hS' (Nat.le_trans hw hsz') (fun j hj hje hjn => ?_) (fun j j' hj hj' hje hje' hjn hjn' hne => ?_)
      · have hcnt : ∀ (l : List Nat), l.Nodup → i ∈ l → (l.filter fun j => !(upd ex i true j)).length + 1 = (l.filter fun j => !ex j).length := by
          intro l
          induction l with
          | nil => intro _ h; cases h
          | cons x l ihl =>
            intro hnl hx
            rw [List.nodup_cons] at hnl
            by_cases hxi : x = i
            · subst hxi
              have : (l.filter fun j => !(upd ex x true j)) = l.filter fun j => !ex j := List.filter_congr (fun j hj => by rw [upd_ne _ _ (fun e => hnl.1 (by rw [← e]; exact hj))])
              rw [List.filter_cons, List.filter_cons, upd_same, hie, this]; simp
            · have hxl : i ∈ l := by
                rcases List.mem_cons.1 hx with h | h
                · exact absurd h.symm hxi
                · exact h
              have := ihl hnl.2 hxl
              rw [List.filter_cons, List.filter_cons, upd_ne _ _ hxi]
              split
              · simp only [List.length_cons]; omega
              · exact this
        have := hcnt l hln hil
        omega
      · by_cases hji : j = i
        · subst hji
          rw [if_pos hil, upd_same, if_pos rfl]
          have hlt : j < listed.size := by
            have := (hin j hil).1
            rw [hcl.size]; exact this
          simp [Array.getD, hlt]
        · rw [getD_set_ne d (Ne.symm hji), hlst j d, upd_ne _ _ hji]
      · by_cases hji : j = i
        · subst hji
          rw [upd_same, upd_same]
          exact ⟨hFi, fun k hk => (hBi k hk).1⟩
        · rw [upd_ne _ _ hji, upd_ne _ _ hji]
          have hjx := hexi j hje hji
          have hjd : j ∉ depsAt .any ops i := hjn i hil (upd_same _ _ _)
          have hju : ∀ j' ∈ l, ex j' = true → j ∉ depsAt .any ops j' := fun j' hj' he => hjn j' hj' (by
            by_cases e : j' = i
            · rw [e, upd_same]
            · rw [upd_ne _ _ e]; exact he)
          obtain ⟨hf, hb⟩ := hF j hj hjx hju
          refine ⟨R.stable j _ _ w w'' hf hS' hsz' (fun k hk => hkeep k (hb k hk) (fun d hd hdi hbd => hB j d hj hd hjx (hdx d hd hdi) hju (hdu d hd hdi) (fun e => hjd (e ▸ hdi)) k hk hbd)), fun k hk => Nat.lt_of_lt_of_le (hb k hk) hsz'⟩
      · have hold : ∀ j, j ∈ l → upd ex i true j = true → (∀ q ∈ l, upd ex i true q = true → j ∉ depsAt .any ops q) → j ≠ i → ex j = true ∧ (∀ q ∈ l, ex q = true → j ∉ depsAt .any ops q) ∧ j ∉ depsAt .any ops i := fun j hj hje hjn hji =>
          ⟨hexi j hje hji, fun q hq he => hjn q hq (by
            by_cases e : q = i
            · rw [e, upd_same]
            · rw [upd_ne _ _ e]; exact he), hjn i hil (upd_same _ _ _)⟩
        have hnew : ∀ j, j ∈ l → upd ex i true j = true → (∀ q ∈ l, upd ex i true q = true → j ∉ depsAt .any ops q) → j ≠ i → ∀ k, B' k → ¬ B j k := fun j hj hje hjn hji k hk hbj => by
          obtain ⟨h4, h5, h6⟩ := hold j hj hje hjn hji
          rcases (hBi k hk).2 with h7 | ⟨d, hd, hdi, hbd⟩
          · have := (hF j hj h4 h5).2 k hbj; omega
          · exact hB d j hd hj (hdx d hd hdi) h4 (hdu d hd hdi) h5 (fun e => h6 (e ▸ hdi)) k hbd hbj
        by_cases hji : j = i
        · subst hji
          intro k hk
          rw [upd_same] at hk
          rw [upd_ne _ _ (Ne.symm hne)]
          exact hnew j' hj' hje' hjn' (Ne.symm hne) k hk
        · intro k hk
          rw [upd_ne _ _ hji] at hk
          by_cases hji' : j' = i
          · subst hji'
            rw [upd_same]
            exact fun hk' => hnew j hj hje hjn hji k hk' hk
          · rw [upd_ne _ _ hji']
            obtain ⟨h4, h5, _⟩ := hold j hj hje hjn hji
            obtain ⟨h6, h7, _⟩ := hold j' hj' hje' hjn' hji'
            exact hB j j' hj hj' h4 h6 h5 h7 hne k hk
theorem wpAnyF_seq2 (hs : Region.noSelect ops = true) (hQ : ∀ o ∈ ops.toList, ∀ c a v w, Q (.panic c) (a.put o.dst v) w → Q (.panic c) a w) :
    ∀ (l : List Turn2) (listed : Array Bool) (a : Act) (w : World), Closed md ops listed → okSeq2 md ops F l listed = true → runSeq2 P ops Q S l a w → wpAnyF P md ops Q S F (many2 l) listed a w
  | [], listed, a, w, _, hk, h => ⟨by simpa [okSeq2] using hk, h⟩
  | .take i :: r, listed, a, w, inv, hk, h => by
    simp only [okSeq2, Bool.and_eq_true, Bool.not_eq_true'] at hk
    obtain ⟨o, v, ho, hy, hS, hr⟩ := h
    have hi : i ∈ Region.ready md ops listed := by simpa using hk.1.1.1.1
    exact wpAnyF_first ho (Region.noSelect_spec hs) (fun c a w => hQ o (Array.mem_toList_iff.2 (Array.mem_of_getElem? ho)) c a v w) hk.1.1.2 (many2 r) listed a w inv hk.1.2
      (Region.free_spec ho hk.1.1.1.2) hi hy hS (wpAnyF_seq2 hs hQ r _ _ _ (inv.set hi) hk.2 hr)
  | .op i :: r, listed, a, w, inv, hk, h => by
    simp only [okSeq2, Bool.and_eq_true, beq_iff_eq] at hk
    have hi : i ∈ Region.ready md ops listed := by rw [hk.1]; simp
    exact wpAnyF_one hk.1 (wpOp_mono (fun a' w' h' => ⟨h'.1, wpAnyF_seq2 hs hQ r _ _ _ (inv.set hi) hk.2 h'.2⟩) h)
  | .fin i :: r, listed, a, w, inv, hk, h => by
    simp only [okSeq2, Bool.and_eq_true, beq_iff_eq] at hk
    refine ⟨fun h0 => (by rw [hk.1.1] at h0; cases h0), fun j hj => ?_⟩
    have hji : j = i := by rw [hk.1.1] at hj; simpa using hj
    subst hji
    exact wpOp_mono (fun a' w' h' => ⟨fun hc => (by rw [hk.1.2] at hc; cases hc), wpAnyF_seq2 hs hQ r _ _ _ (inv.set hj) hk.2 h'⟩) h
  | .pair i j :: r, listed, a, w, inv, hk, h => by
    simp only [okSeq2, Bool.and_eq_true, beq_iff_eq, bne_iff_ne, ne_eq] at hk
    obtain ⟨⟨⟨⟨h1, hij⟩, h2⟩, h3⟩, h4⟩ := hk
    have hi : i ∈ Region.ready md ops listed := by rw [h1]; simp
    have hj : j ∈ Region.ready md ops listed := by rw [h1]; simp
    have hj2 : j ∈ Region.ready md ops (listed.setIfInBounds i true) := by rw [h2]; simp
    refine ⟨fun h0 => (by rw [h1] at h0; cases h0), fun k hk => ?_⟩
    have hk2 : k = i ∨ k = j := by rw [h1] at hk; simpa using hk
    rcases hk2 with rfl | rfl
    · exact wpOp_mono (fun a' w' h' => ⟨fun _ => h'.1, wpAnyF_one h2 (wpOp_mono (fun a' w' h' => ⟨h'.1, wpAnyF_seq2 hs hQ r _ _ _ ((inv.set hi).set hj2) h4 h'.2⟩) h'.2)⟩) h.1
    · refine wpOp_mono (fun a' w' h' => ⟨fun _ => h'.1, wpAnyF_one h3 (wpOp_mono (fun a' w' h' => ⟨h'.1, ?_⟩) h'.2)⟩) h.2
      rw [Array.setIfInBounds_comm _ _ (Ne.symm hij)]
      exact wpAnyF_seq2 hs hQ r _ _ _ ((inv.set hi).set hj2) h4 h'.2
  | .tri i k j :: r, listed, a, w, inv, hk, h => by
    simp only [okSeq2, Bool.and_eq_true, beq_iff_eq, bne_iff_ne, ne_eq] at hk
    obtain ⟨⟨⟨⟨⟨⟨⟨h1, hij⟩, hkj⟩, h2⟩, h3⟩, h4⟩, h5⟩, h6⟩ := hk
    have hi : i ∈ Region.ready md ops listed := by rw [h1]; simp
    have hk2 : k ∈ Region.ready md ops (listed.setIfInBounds i true) := by rw [h2]; simp
    have hj3 : j ∈ Region.ready md ops ((listed.setIfInBounds i true).setIfInBounds k true) := by rw [h4]; simp
    have inv3 := ((inv.set hi).set hk2).set hj3
    have e1 : ((listed.setIfInBounds i true).setIfInBounds j true).setIfInBounds k true = ((listed.setIfInBounds i true).setIfInBounds k true).setIfInBounds j true := Array.setIfInBounds_comm _ _ (Ne.symm hkj)
    have e2 : (listed.setIfInBounds j true).setIfInBounds i true = (listed.setIfInBounds i true).setIfInBounds j true := Array.setIfInBounds_comm _ _ (Ne.symm hij)
    refine ⟨fun h0 => (by rw [h1] at h0; cases h0), fun q hq => ?_⟩
    have hq2 : q = i ∨ q = j := by rw [h1] at hq; simpa using hq
    rcases hq2 with rfl | rfl
    · refine wpOp_mono (fun a' w' h' => ⟨fun _ => h'.1, ⟨fun h0 => (by rw [h2] at h0; cases h0), fun q2 hq2 => ?_⟩⟩) h.1
      have hq3 : q2 = k ∨ q2 = j := by rw [h2] at hq2; simpa using hq2
      rcases hq3 with rfl | rfl
      · exact wpOp_mono (fun a' w' h' => ⟨fun _ => h'.1, wpAnyF_one h4 (wpOp_mono (fun a' w' h' => ⟨h'.1, wpAnyF_seq2 hs hQ r _ _ _ inv3 h6 h'.2⟩) h'.2)⟩) h'.2.1
      · refine wpOp_mono (fun a' w' h' => ⟨fun _ => h'.1, wpAnyF_one h5 (wpOp_mono (fun a' w' h' => ⟨h'.1, ?_⟩) h'.2)⟩) h'.2.2
        rw [e1]
        exact wpAnyF_seq2 hs hQ r _ _ _ inv3 h6 h'.2
    · refine wpOp_mono (fun a' w' h' => ⟨fun _ => h'.1, wpAnyF_one h3 (wpOp_mono (fun a' w' h' => ⟨h'.1, ?_⟩) h'.2)⟩) h.2
      rw [e2]
      refine wpAnyF_one h5 (wpOp_mono (fun a' w' h' => ⟨h'.1, ?_⟩) h'.2)
      rw [e1]
      exact wpAnyF_seq2 hs hQ r _ _ _ inv3 h6 h'.2
  | .rooms l :: r, listed, a, w, inv, hk, h => by
    simp only [okSeq2, Bool.and_eq_true] at hk
    obtain ⟨⟨hmd, hok⟩, hr⟩ := hk
    have hmd : md = .any := by cases md <;> first | rfl | cases hmd
    obtain ⟨Fc, hR, hS, hfin⟩ := h
    have hgo : Closed md ops (l.foldl (fun x i => x.setIfInBounds i true) listed) → ∀ vals B w', S w' → Left ops l Fc w vals B w' → wpAnyF P md ops Q S F (many2 r) (l.foldl (fun x i => x.setIfInBounds i true) listed) (putE ops l (fun _ => true) vals a) w' :=
      fun hc vals B w' hS' hl => wpAnyF_seq2 hs hQ r _ _ _ hc hr (hfin vals B w' hS' hl)
    clear hfin
    subst hmd
    have hin : ∀ i ∈ l, listed.getD i true = false := fun i hi => by
      simp only [okRooms, Bool.and_eq_true] at hok
      have := List.all_eq_true.1 hok.1.1.2 i hi
      simp only [Bool.and_eq_true, Bool.not_eq_true'] at this
      exact this.1.2
    have hinv : Closed .any ops (l.foldl (fun x i => x.setIfInBounds i true) listed) := by
      have hok' := hok
      simp only [okRooms, Bool.and_eq_true] at hok'
      refine ⟨by rw [foldl_size, inv.size], fun j oj hj hl e he hb => ?_⟩
      have hbd : ∀ i ∈ l, i < listed.size := fun i hi => by
        have := List.all_eq_true.1 hok'.1.1.2 i hi
        simp only [Bool.and_eq_true, decide_eq_true_eq] at this
        rw [inv.size]; exact this.1.1
      rw [foldl_getD l listed _ _ hbd] at hl ⊢
      have hd : e.on ∈ depsAt .any ops j := by
        unfold depsAt; rw [hj]
        exact List.mem_map.2 ⟨e, List.mem_filter.2 ⟨Array.mem_toList_iff.2 he, hb⟩, rfl⟩
      by_cases hjl : j ∈ l
      · have := List.all_eq_true.1 hok'.1.1.2 j hjl
        simp only [Bool.and_eq_true, decide_eq_true_eq] at this
        have h2 := List.all_eq_true.1 this.2 e.on hd
        simp only [Bool.and_eq_true, decide_eq_true_eq, Bool.or_eq_true] at h2
        split
        · rfl
        · rename_i hn
          rcases h2.2 with h3 | h3
          · exact h3
          · exact absurd (by simpa using h3) hn
      · rw [if_neg hjl] at hl
        have := inv.closed j oj hj hl e he hb
        split
        · rfl
        · exact this
    have := wpAnyF_rooms (Fc := Fc) (n := many2 r) (w0 := w) hok hR (hgo hinv) l.length listed (fun _ => false) (fun _ => undef) (fun _ _ => False) w (by simp) inv rfl
      (fun j d => by simp) hS (Nat.le_refl _) (fun i hi he => by cases he) (fun i i' hi hi' he => by cases he)
    have e : putE ops l (fun _ => false) (fun _ => undef) a = a := by
      have : ∀ (l : List Nat) (a : Act), putE ops l (fun _ => false) (fun _ => undef) a = a := by
        intro l
        induction l with
        | nil => intro a; rfl
        | cons i l ih => intro a; rw [putE, if_neg (by simp)]; exact ih a
      exact this l a
    rw [e] at this
    rw [many2, Turn2.many, Nat.add_comm]
    exact this
theorem wp_region_seq2 {id : Nat} {a : Act} {w : World} (S : World → Prop) (F : List Nat) (l : List Turn2) (hm : P.follows .mixedOrders = true) (hs : Region.noSelect ops = true) (hl : many2 l = ops.size)
    (hk : okSeq2 .any ops F l (Array.replicate ops.size false) = true)
    (hQ : ∀ o ∈ ops.toList, ∀ c a v w, Q (.panic c) (a.put o.dst v) w → Q (.panic c) a w)
    (h : runSeq2 P ops Q S l a w.drew) : (Code.region id ops true).wp P Q a w :=
  wp_region_any hm (wpAny_of_F _ _ _ _ (hl ▸ wpAnyF_seq2 hs hQ l _ _ _ Closed.start hk h))
theorem runSeq2_nil {a : Act} {w : World} (h : Q .normal a w) : runSeq2 P ops Q S [] a w := h
theorem runSeq2_take {i : Nat} {o : Oper} {v : Value} {r : List Turn2} {a : Act} {w : World} (ho' : ops.toList[i]? = some o) (hw : Region.wanted o (yielded ops a.tmps) = true)
    (hy : ∀ w', S w' → (execOp a.eval o).run P w' = .ok (.value v) w') (hS : S w) (h : runSeq2 P ops Q S r (a.put o.dst v) w) : runSeq2 P ops Q S (.take i :: r) a w :=
  ⟨o, v, by simpa using ho', .inl ⟨hw, hy⟩, hS, h⟩
theorem runSeq2_skip {i : Nat} {o : Oper} {r : List Turn2} {a : Act} {w : World} (ho' : ops.toList[i]? = some o) (hw : Region.wanted o (yielded ops a.tmps) = false)
    (hS : S w) (h : runSeq2 P ops Q S r (a.put o.dst undef) w) : runSeq2 P ops Q S (.take i :: r) a w :=
  ⟨o, undef, by simpa using ho', .inr ⟨hw, rfl⟩, hS, h⟩
theorem wpOp_at {i : Nat} {o : Oper} {a : Act} {w : World} {R : Act → World → Prop} (ho' : ops.toList[i]? = some o) (hw : Region.wanted o (yielded ops a.tmps) = true)
    (h : ∀ K : Act → World → Prop, (∀ a' w', R a' w' → K a' w') → o.wp P a w K Q) : wpOp P ops Q i R a w := by
  have ho : ops[i]? = some o := by simpa using ho'
  unfold wpOp
  simp only [ho, hw, if_true]
  exact .inl (h _ fun a' w' hR => hR)
theorem runSeq2_op {i : Nat} {o : Oper} {r : List Turn2} {a : Act} {w : World} (ho' : ops.toList[i]? = some o) (hw : Region.wanted o (yielded ops a.tmps) = true)
    (h : ∀ K : Act → World → Prop, (∀ a' w', S w' → runSeq2 P ops Q S r a' w' → K a' w') → o.wp P a w K Q) : runSeq2 P ops Q S (.op i :: r) a w :=
  wpOp_at (R := fun a' w' => S w' ∧ runSeq2 P ops Q S r a' w') ho' hw fun K hK => h K fun a' w' hS hr => hK a' w' ⟨hS, hr⟩
theorem runSeq2_fin {i : Nat} {o : Oper} {r : List Turn2} {a : Act} {w : World} (ho' : ops.toList[i]? = some o) (hw : Region.wanted o (yielded ops a.tmps) = true)
    (h : ∀ K : Act → World → Prop, (∀ a' w', runSeq2 P ops Q S r a' w' → K a' w') → o.wp P a w K Q) : runSeq2 P ops Q S (.fin i :: r) a w :=
  wpOp_at (R := fun a' w' => runSeq2 P ops Q S r a' w') ho' hw h
theorem put_comm {a : Act} {i j : Nat} (h : i ≠ j) (x y : Value) : (a.put (some j) y).put (some i) x = (a.put (some i) x).put (some j) y := by
  simp only [Act.put]
  rw [Array.setIfInBounds_comm _ _ (Ne.symm h)]
theorem wanted_free {o : Oper} (hg : o.guard = none) (ys : Nat → Option Bool) : Region.wanted o ys = true := by simp [Region.wanted, hg]
/-- Two rooms are made, in either order: what is gone on with knows that they are new, and not the same. -/
theorem runSeq2_two {i j di dj : Nat} {oi oj : Oper} {Zi Zj : Obj} {r : List Turn2} {a : Act} {w : World} (hoi : ops.toList[i]? = some oi) (hoj : ops.toList[j]? = some oj) (hgi : oi.guard = none) (hgj : oj.guard = none)
    (hi : ∀ (a : Act) (w : World) (K : Act → World → Prop), K (a.put (some di) (.pointer (some ⟨w.heap.size, 0, none⟩))) (w.alloc Zi) → oi.wp P a w K Q)
    (hj : ∀ (a : Act) (w : World) (K : Act → World → Prop), K (a.put (some dj) (.pointer (some ⟨w.heap.size, 0, none⟩))) (w.alloc Zj) → oj.wp P a w K Q)
    (hd : di ≠ dj) (hS : ∀ w', S w' → ∀ o, S (w'.alloc o)) (hs : S w)
    (h : ∀ bi bj w', S w' → bi ≠ bj → w.heap.size ≤ bi → w.heap.size ≤ bj → w'.heap[bi]? = some Zi → w'.heap[bj]? = some Zj →
      runSeq2 P ops Q S r ((a.put (some di) (.pointer (some ⟨bi, 0, none⟩))).put (some dj) (.pointer (some ⟨bj, 0, none⟩))) w') : runSeq2 P ops Q S (.pair i j :: r) a w := by
  have hsz : ∀ (w : World) (o : Obj), (w.alloc o).heap.size = w.heap.size + 1 := fun w o => Array.size_push _
  have hnew : ∀ (w : World) (o : Obj), (w.alloc o).heap[w.heap.size]? = some o := fun w o => by show (w.heap.push o)[_]? = _; rw [Array.getElem?_push_size]
  have hold : ∀ (w : World) (o o' : Obj), ((w.alloc o).alloc o').heap[w.heap.size]? = some o := fun w o o' => by
    show ((w.heap.push o).push o')[_]? = _
    rw [Array.getElem?_push, if_neg (by simp), Array.getElem?_push_size]
  refine ⟨wpOp_at hoi (wanted_free hgi _) fun K hK => hi _ _ _ (hK _ _ ⟨hS _ hs _, wpOp_at hoj (wanted_free hgj _) fun K hK => hj _ _ _ (hK _ _ ⟨hS _ (hS _ hs _) _, ?_⟩)⟩),
    wpOp_at hoj (wanted_free hgj _) fun K hK => hj _ _ _ (hK _ _ ⟨hS _ hs _, wpOp_at hoi (wanted_free hgi _) fun K hK => hi _ _ _ (hK _ _ ⟨hS _ (hS _ hs _) _, ?_⟩)⟩)⟩
  · have := hsz w Zi
    exact h _ _ _ (hS _ (hS _ hs _) _) (by omega) (Nat.le_refl _) (by omega) (hold _ _ _) (hnew _ _)
  · have := hsz w Zj
    rw [put_comm hd]
    exact h _ _ _ (hS _ (hS _ hs _) _) (by omega) (by omega) (Nat.le_refl _) (hnew _ _) (hold _ _ _)
/-- Two in either order, each with a value: what is gone on with knows both. -/
theorem runSeq2_pairM {i j di dj : Nat} {r : List Turn2} {a : Act} {w : World} (N : Value → Value → World → Prop) (hd : di ≠ dj)
    (h1 : wpOp P ops Q i (fun a1 w1 => ∃ v, a1 = a.put (some di) v ∧ S w1 ∧ wpOp P ops Q j (fun a2 w2 => ∃ u, a2 = a1.put (some dj) u ∧ S w2 ∧ N v u w2) a1 w1) a w)
    (h2 : wpOp P ops Q j (fun a1 w1 => ∃ u, a1 = a.put (some dj) u ∧ S w1 ∧ wpOp P ops Q i (fun a2 w2 => ∃ v, a2 = a1.put (some di) v ∧ S w2 ∧ N v u w2) a1 w1) a w)
    (h : ∀ v u w', S w' → N v u w' → runSeq2 P ops Q S r ((a.put (some di) v).put (some dj) u) w') : runSeq2 P ops Q S (.pair i j :: r) a w := by
  refine ⟨wpOp_mono (fun a1 w1 x => ?_) h1, wpOp_mono (fun a1 w1 x => ?_) h2⟩
  · obtain ⟨v, rfl, hs, hx⟩ := x
    refine ⟨hs, wpOp_mono (fun a2 w2 y => ?_) hx⟩
    obtain ⟨u, rfl, hs2, hn⟩ := y
    exact ⟨hs2, h v u w2 hs2 hn⟩
  · obtain ⟨u, rfl, hs, hx⟩ := x
    refine ⟨hs, wpOp_mono (fun a2 w2 y => ?_) hx⟩
    obtain ⟨v, rfl, hs2, hn⟩ := y
    rw [put_comm hd]
    exact ⟨hs2, h v u w2 hs2 hn⟩
end
end Go.Hay

set_option linter.unusedVariables false
set_option linter.unusedSimpArgs false
namespace Go.Hay
open Go.RowKit Go.Proofs.YtcciejcpijlkfaaW.PrintWords Go.Proofs.YtcciejcpijlkfaaW.PrintLast Go.Proofs.YtcciejcpijlkfaaW.PrintMore
theorem nums_own {k : IntKind} {e base : Nat} {w : World} {ok : Nat → Prop} {v : Value} {xs : List Int} (h : (Kd.int k).R e w base ok v xs) : ∀ b, v.ownBlock = some b → ok b ∧ base ≤ b ∧ b < w.heap.size :=
  fun b hb => ⟨h.1 b hb, Go.Proofs.YtcciejcpijlkfaaW.PrintWords.Kd.R_base h b hb, Go.Proofs.YtcciejcpijlkfaaW.PrintWords.Kd.R_lt h b hb⟩
theorem C_at {α : Type} {d : Go.Proofs.YtcciejcpijlkfaaW.PrintWords.Kd α} (hd : ∀ {w w' : World} {x : α} {cs : List Value}, d.K w x cs → d.K w' x cs) {w w' : World} {A : Option Addr} {n : Nat} {xs : List α} (h : d.C w A n xs) (hk : ∀ ad, A = some ad → w'.heap[ad.block]? = w.heap[ad.block]?) : d.C w' A n xs := by
  refine ⟨h.1, h.2.1, fun hp => ?_⟩
  obtain ⟨ad, rfl, hx⟩ := h.2.2 hp
  refine ⟨ad, rfl, fun j p hj => ?_⟩
  obtain ⟨cs, h1, h2, h3⟩ := hx j p hj
  refine ⟨cs, h1, hd h2, fun i u hu => ?_⟩
  rw [← h3 i u hu]
  exact World.cell?_of_block (by rw [add_block]; exact hk ad rfl)
section
variable {P : Program} {ops : Array Oper} {Q : Exit → Act → World → Prop} {S : World → Prop}
end
end Go.Hay

set_option linter.unusedVariables false
set_option linter.unusedSimpArgs false
namespace Go.Proofs.Ytcciejcpijlkfaa.H
open Go.RowKit Go.Hay Go.Proofs.YtcciejcpijlkfaaW.PrintWords Go.Proofs.YtcciejcpijlkfaaW.PrintLast Go.Proofs.YtcciejcpijlkfaaW.PrintMore
def frcells (F : Fr) (vp : Value) : List Value := [.int .i64 F.fn, .int .i64 F.at_, .int .i64 F.steps, .int .i64 F.kids, vp] ++ (F.regs.map (Value.int .i64) ++ F.hands.map (Value.int .i64))
structure FB (fb : Nat) (F : Fr) (vp : Value) (w : World) : Prop where
  node : w.heap[fb]? = some (.cells (frcells F vp).toArray 62 (0, 0))
  rl : F.regs.length = 8
  hl : F.hands.length = 4
theorem eightF {α : Type} {l : List α} (h : l.length = 8) : ∃ a b c d e f g i, l = [a, b, c, d, e, f, g, i] := by
  match l, h with
  | [a, b, c, d, e, f, g, i], _ => exact ⟨a, b, c, d, e, f, g, i, rfl⟩
theorem fourF {α : Type} {l : List α} (h : l.length = 4) : ∃ a b c d, l = [a, b, c, d] := by
  match l, h with
  | [a, b, c, d], _ => exact ⟨a, b, c, d, rfl⟩
section
variable {fb : Nat} {vp : Value} {F : Fr} {w w1 : World}
theorem FB.cells (h : FB fb F vp w) : ∃ r0 r1 r2 r3 r4 r5 r6 r7 h0 h1 h2 h3, F.regs = [r0, r1, r2, r3, r4, r5, r6, r7] ∧ F.hands = [h0, h1, h2, h3] ∧
    (frcells F vp).toArray = #[.int .i64 F.fn, .int .i64 F.at_, .int .i64 F.steps, .int .i64 F.kids, vp, .int .i64 r0, .int .i64 r1, .int .i64 r2, .int .i64 r3, .int .i64 r4, .int .i64 r5, .int .i64 r6, .int .i64 r7, .int .i64 h0, .int .i64 h1, .int .i64 h2, .int .i64 h3] := by
  obtain ⟨r0, r1, r2, r3, r4, r5, r6, r7, hr⟩ := eightF h.rl
  obtain ⟨h0, h1, h2, h3, hh⟩ := fourF h.hl
  refine ⟨r0, r1, r2, r3, r4, r5, r6, r7, h0, h1, h2, h3, hr, hh, ?_⟩
  unfold frcells
  rw [hr, hh]
  rfl
theorem FB.frozen (h : FB fb F vp w) (i : Nat) : w.frozen? ⟨fb, i, none⟩ = false := blk_frozen h.node i
theorem FB.fix (h : FB fb F vp w) : w.cell? ⟨fb, 0, none⟩ = some (.int .i64 F.fn) ∧ w.cell? ⟨fb, 1, none⟩ = some (.int .i64 F.at_) ∧ w.cell? ⟨fb, 2, none⟩ = some (.int .i64 F.steps) ∧ w.cell? ⟨fb, 3, none⟩ = some (.int .i64 F.kids) ∧ w.cell? ⟨fb, 4, none⟩ = some vp := by
  obtain ⟨r0, r1, r2, r3, r4, r5, r6, r7, h0, h1, h2, h3, hr, hh, hc⟩ := h.cells
  have hn := h.node
  rw [hc] at hn
  exact ⟨blk_cell hn 0, blk_cell hn 1, blk_cell hn 2, blk_cell hn 3, blk_cell hn 4⟩
theorem FB.reg (h : FB fb F vp w) (i : Nat) (hi : i < 8) : w.cell? ⟨fb, 5 + i, none⟩ = some (.int .i64 (F.regs.getD i 0)) := by
  obtain ⟨r0, r1, r2, r3, r4, r5, r6, r7, h0, h1, h2, h3, hr, hh, hc⟩ := h.cells
  have hn := h.node
  rw [hc] at hn
  rw [hr]
  have : i = 0 ∨ i = 1 ∨ i = 2 ∨ i = 3 ∨ i = 4 ∨ i = 5 ∨ i = 6 ∨ i = 7 := by omega
  rcases this with rfl | rfl | rfl | rfl | rfl | rfl | rfl | rfl <;> exact blk_cell hn _
theorem FB.hand (h : FB fb F vp w) (i : Nat) (hi : i < 4) : w.cell? ⟨fb, 13 + i, none⟩ = some (.int .i64 (F.hands.getD i 0)) := by
  obtain ⟨r0, r1, r2, r3, r4, r5, r6, r7, h0, h1, h2, h3, hr, hh, hc⟩ := h.cells
  have hn := h.node
  rw [hc] at hn
  rw [hh]
  have : i = 0 ∨ i = 1 ∨ i = 2 ∨ i = 3 := by omega
  rcases this with rfl | rfl | rfl | rfl <;> exact blk_cell hn _
theorem FB.keep {S : Nat → Prop} (h : FB fb F vp w) (hk : Keep S w w1) (hS : ¬ S fb) : FB fb F vp w1 := ⟨hk.blk h.node hS, h.rl, h.hl⟩
theorem FB.below (h : FB fb F vp w) (hb : Below w.heap.size w w1) : FB fb F vp w1 := ⟨(hb.block _ (blk_lt h.node)).trans h.node, h.rl, h.hl⟩
theorem FB.lt (h : FB fb F vp w) : fb < w.heap.size := blk_lt h.node
theorem FB.setAt (h : FB fb F vp w) (x : Int) : FB fb { F with at_ := x } vp (w.setCell ⟨fb, 1, none⟩ (.int .i64 x)) := by
  obtain ⟨r0, r1, r2, r3, r4, r5, r6, r7, h0, h1, h2, h3, hr, hh, hc⟩ := h.cells
  have := blk_set h.node (1) (.int .i64 x)
  refine ⟨?_, h.rl, h.hl⟩
  rw [this, hc]; unfold frcells; simp only [hr, hh]; rfl
theorem FB.setSteps (h : FB fb F vp w) (x : Int) : FB fb { F with steps := x } vp (w.setCell ⟨fb, 2, none⟩ (.int .i64 x)) := by
  obtain ⟨r0, r1, r2, r3, r4, r5, r6, r7, h0, h1, h2, h3, hr, hh, hc⟩ := h.cells
  have := blk_set h.node (2) (.int .i64 x)
  refine ⟨?_, h.rl, h.hl⟩
  rw [this, hc]; unfold frcells; simp only [hr, hh]; rfl
theorem FB.setKids (h : FB fb F vp w) (x : Int) : FB fb { F with kids := x } vp (w.setCell ⟨fb, 3, none⟩ (.int .i64 x)) := by
  obtain ⟨r0, r1, r2, r3, r4, r5, r6, r7, h0, h1, h2, h3, hr, hh, hc⟩ := h.cells
  have := blk_set h.node (3) (.int .i64 x)
  refine ⟨?_, h.rl, h.hl⟩
  rw [this, hc]; unfold frcells; simp only [hr, hh]; rfl
theorem FB.setReg (h : FB fb F vp w) (i : Nat) (hi : i < 8) (x : Int) : FB fb { F with regs := F.regs.set i x } vp (w.setCell ⟨fb, 5 + i, none⟩ (.int .i64 x)) := by
  obtain ⟨r0, r1, r2, r3, r4, r5, r6, r7, h0, h1, h2, h3, hr, hh, hc⟩ := h.cells
  have := blk_set h.node (5 + i) (.int .i64 x)
  refine ⟨?_, by rw [List.length_set]; exact h.rl, h.hl⟩
  rw [this, hc]; unfold frcells; simp only [hr, hh]
  have : i = 0 ∨ i = 1 ∨ i = 2 ∨ i = 3 ∨ i = 4 ∨ i = 5 ∨ i = 6 ∨ i = 7 := by omega
  rcases this with rfl | rfl | rfl | rfl | rfl | rfl | rfl | rfl <;> rfl
/-- registers, one behind the other. -/
theorem FB.argsC (h : FB fb F vp w) (b ar : Nat) (hb : b + ar ≤ 8) : ((F.regs.drop b).take ar).length = ar ∧ (Kd.int .i64).C w (some ⟨fb, 5 + b, none⟩) ((F.regs.drop b).take ar).length ((F.regs.drop b).take ar) := by
  have hl : ((F.regs.drop b).take ar).length = ar := by rw [List.length_take, List.length_drop, h.rl]; omega
  refine ⟨hl, rfl, by omega, fun _ => ⟨_, rfl, fun j p hj => ⟨[.int .i64 p], rfl, rfl, fun i u hu => ?_⟩⟩⟩
  have hlt := (List.getElem?_eq_some_iff.1 hj).1
  match i, hu with
  | 0, hu =>
    cases hu
    have e : (⟨fb, 5 + b, none⟩ : Addr).add (j * (Kd.int .i64).sz + 0) = ⟨fb, 5 + (b + j), none⟩ := by
      have e2 : j * (Kd.int .i64).sz + 0 = j := Nat.mul_one j
      rw [e2]
      unfold Addr.add
      by_cases hj0 : j = 0
      · subst hj0; simp
      · simp [hj0]; omega
    rw [e, h.reg (b + j) (by omega)]
    rw [List.getElem?_take_of_lt (by omega), List.getElem?_drop] at hj
    rw [List.getD_eq_getElem?_getD, hj]; rfl
end
theorem slice_regsF (fb b ar : Nat) (hb : b < 8) (har : b + ar ≤ 8) (w : World) : (Instr.sliceAt 24 (.pointer (some ⟨fb, 5, none⟩)) (some (.int .i64 (b : Int))) (some (.int .i64 ((b : Int) + (ar : Int)))) none).run Try.prog w = .ok (.slice (some ⟨fb, 5 + b, none⟩) ar (8 - b)) w := by
  have hal : Try.prog.arrayLen 24 = 8 := by kernel_rfl
  have hel : Try.prog.elem 24 = 2 := by kernel_rfl
  have hsz : ∀ w, (sizeOf 2).run Try.prog w = .ok 1 w := fun _ => by kernel_rfl
  have ht : Try.prog.underlying 24 = some (.array (Try.prog.arrayLen 24) (Try.prog.elem 24)) := by rw [hal, hel]; exact Try.underlying24
  rw [run_sliceAt_array_lh w 24 ⟨fb, 5, none⟩ ht .i64 .i64 (b : Int) ((b : Int) + (ar : Int)) (by omega) (by omega) (by rw [hal]; omega), hel, hsz, hal]
  show Result.ok (slicedAt _ _ _ _ _) w = _
  have e1 : ((b : Int) + (ar : Int)).toNat = b + ar := by omega
  unfold slicedAt
  rw [e1, Int.toNat_natCast, if_neg (by omega), Nat.add_sub_cancel_left, Nat.mul_one]
  by_cases hb0 : b = 0
  · subst hb0; rfl
  · unfold Addr.add; simp [hb0]
/-! ### an effect -/
def efV (e : Ef) (Aa : Option Addr) (ca : Nat) (Ab : Option Addr) (cb : Nat) : Value := .agg #[.int .i64 e.kind, .int .i64 e.value, .int .i64 e.reg, .int .i64 e.fn, .int .i64 e.hand, .int .i64 e.why, .slice Aa e.args.length ca, .slice Ab e.path.length cb]
/-- its rows lie in blocks from B on. -/
structure EfC (B : Nat) (w : World) (e : Ef) (Aa : Option Addr) (ca : Nat) (Ab : Option Addr) (cb : Nat) : Prop where
  args : (Kd.int .i64).C w Aa e.args.length e.args
  argsC : e.args.length ≤ ca
  path : (Kd.int .i64).C w Ab e.path.length e.path
  pathC : e.path.length ≤ cb
  newA : e.args = [] ∨ ∃ ad, Aa = some ad ∧ B ≤ ad.block
  newP : e.path = [] ∨ ∃ ad, Ab = some ad ∧ B ≤ ad.block
theorem EfC.plain (B : Nat) (w : World) (e : Ef) (h : e.args = [] ∧ e.path = []) : EfC B w e none 0 none 0 := by
  obtain ⟨h1, h2⟩ := h
  refine ⟨?_, ?_, ?_, ?_, .inl h1, .inl h2⟩
  · rw [h1]; exact Kd.C_nil _ _
  · rw [h1]; exact Nat.le_refl _
  · rw [h2]; exact Kd.C_nil _ _
  · rw [h2]; exact Nat.le_refl _
theorem EfC.below {B : Nat} {w w1 : World} {e : Ef} {Aa : Option Addr} {ca : Nat} {Ab : Option Addr} {cb : Nat} (h : EfC B w e Aa ca Ab cb) (hb : Below w.heap.size w w1) : EfC B w1 e Aa ca Ab cb :=
  ⟨Kd.C_below h.args hb, h.argsC, Kd.C_below h.path hb, h.pathC, h.newA, h.newP⟩
theorem C_new {w w1 : World} {xs : List Int} {A : Option Addr} {B : Nat} {S : Nat → Prop} (h : (Kd.int .i64).C w A xs.length xs) (hn : xs = [] ∨ ∃ ad, A = some ad ∧ B ≤ ad.block) (hk : Keep S w w1) (hS : ∀ q, B ≤ q → q < w.heap.size → ¬ S q) : (Kd.int .i64).C w1 A xs.length xs := by
  rcases hn with rfl | ⟨ad, rfl, hB⟩
  · exact ⟨rfl, by simp, fun hp => absurd hp (Nat.lt_irrefl 0)⟩
  · refine ⟨rfl, h.2.1, fun hp => ?_⟩
    obtain ⟨ad', e, hx⟩ := h.2.2 hp
    cases e
    refine ⟨ad, rfl, fun j p hj => ?_⟩
    obtain ⟨cs, h1, h2, h3⟩ := hx j p hj
    refine ⟨cs, h1, h2, fun i u hu => ?_⟩
    have h4 := h3 i u hu
    have hlt := World.block_lt_of_cell? _ _ h4
    rw [add_block] at hlt
    rw [← h4]
    exact World.cell?_of_block (by rw [add_block]; exact hk.block _ hlt (hS _ hB hlt))
theorem EfC.keep {B : Nat} {w w1 : World} {e : Ef} {Aa : Option Addr} {ca : Nat} {Ab : Option Addr} {cb : Nat} (h : EfC B w e Aa ca Ab cb) {S : Nat → Prop} (hk : Keep S w w1) (hS : ∀ q, B ≤ q → q < w.heap.size → ¬ S q) : EfC B w1 e Aa ca Ab cb :=
  ⟨C_new h.args h.newA hk hS, h.argsC, C_new h.path h.newP hk hS, h.pathC, h.newA, h.newP⟩
/-- what an operation on a frame leaves. -/
def DoP (fb : Nat) (vp : Value) (r : Ef × Fr) (w : World) (x : Ending) (w' : World) : Prop :=
  ∃ Aa ca Ab cb, x = .returned (efV r.1 Aa ca Ab cb) ∧ EfC w.heap.size w' r.1 Aa ca Ab cb ∧ FB fb r.2 vp w' ∧ Keep (fun q => q = fb) w w'
/-! ### the boxes of an operation -/
def zEff : Obj := .cells #[.int .i64 0, .int .i64 0, .int .i64 0, .int .i64 0, .int .i64 0, .int .i64 0, .slice none 0 0, .slice none 0 0] 36
def dV (A : Option Addr) (n c : Nat) (b d : Int) (fb : Nat) : Value := .agg #[.slice A n c, .int .i64 b, .int .i64 d, .pointer (some ⟨fb, 0, none⟩)]
def xvF (x : S65) : Value := .agg #[.int .i64 x.f0, .int .i64 x.f1, .int .i64 x.f2, .int .i64 x.f3, .int .i64 x.f4]
structure DW (w : World) (A : Option Addr) (n c : Nat) (b d : Int) (fb : Nat) (x : S65) (W : World) : Prop where
  below : Below w.heap.size w W
  c0 : W.heap[w.heap.size]? = some (.cells #[.slice A n c, .int .i64 b, .int .i64 d, .pointer (some ⟨fb, 0, none⟩)] 115 (0, 0))
  c1 : W.heap[w.heap.size + 1]? = some (.cells #[.int .i64 x.f0, .int .i64 x.f1, .int .i64 x.f2, .int .i64 x.f3, .int .i64 x.f4] 65 (0, 0))
  c2 : W.heap[w.heap.size + 1 + 1]? = some zEff
theorem DW.start (w : World) (A : Option Addr) (n c : Nat) (b d : Int) (fb : Nat) (x : S65) : DW w A n c b d fb x (((w.alloc (.cells #[.slice A n c, .int .i64 b, .int .i64 d, .pointer (some ⟨fb, 0, none⟩)] 115)).alloc (.cells #[.int .i64 x.f0, .int .i64 x.f1, .int .i64 x.f2, .int .i64 x.f3, .int .i64 x.f4] 65)).alloc zEff) := by
  have e1 : (w.alloc (.cells #[.slice A n c, .int .i64 b, .int .i64 d, .pointer (some ⟨fb, 0, none⟩)] 115)).heap.size = w.heap.size + 1 := Array.size_push _
  have e2 : ((w.alloc (.cells #[.slice A n c, .int .i64 b, .int .i64 d, .pointer (some ⟨fb, 0, none⟩)] 115)).alloc (.cells #[.int .i64 x.f0, .int .i64 x.f1, .int .i64 x.f2, .int .i64 x.f3, .int .i64 x.f4] 65)).heap.size = w.heap.size + 1 + 1 := by
    rw [← e1]; exact Array.size_push _
  have b1 := (Below.refl w.heap.size w).alloc (Nat.le_refl _) (.cells #[.slice A n c, .int .i64 b, .int .i64 d, .pointer (some ⟨fb, 0, none⟩)] 115)
  have b2 := b1.alloc b1.size (.cells #[.int .i64 x.f0, .int .i64 x.f1, .int .i64 x.f2, .int .i64 x.f3, .int .i64 x.f4] 65)
  refine ⟨b2.alloc b2.size _, blk_alloc (blk_alloc (alloc_blk w _) _) _, ?_, ?_⟩
  · have := alloc_blk (w.alloc (.cells #[.slice A n c, .int .i64 b, .int .i64 d, .pointer (some ⟨fb, 0, none⟩)] 115)) (.cells #[.int .i64 x.f0, .int .i64 x.f1, .int .i64 x.f2, .int .i64 x.f3, .int .i64 x.f4] 65)
    rw [e1] at this
    exact blk_alloc this _
  · have := alloc_blk ((w.alloc (.cells #[.slice A n c, .int .i64 b, .int .i64 d, .pointer (some ⟨fb, 0, none⟩)] 115)).alloc (.cells #[.int .i64 x.f0, .int .i64 x.f1, .int .i64 x.f2, .int .i64 x.f3, .int .i64 x.f4] 65)) zEff
    rw [e2] at this
    exact this
theorem DW.below2 {w W W' : World} {A : Option Addr} {n c : Nat} {b d : Int} {fb : Nat} {x : S65} (h : DW w A n c b d fb x W) (hb : Below W.heap.size W W') : DW w A n c b d fb x W' :=
  ⟨h.below.trans (hb.mono h.below.size), (hb.block _ (blk_lt h.c0)).trans h.c0, (hb.block _ (blk_lt h.c1)).trans h.c1, (hb.block _ (blk_lt h.c2)).trans h.c2⟩
theorem DW.keep {w W W' : World} {A : Option Addr} {n c : Nat} {b d : Int} {fb : Nat} {x : S65} (h : DW w A n c b d fb x W) (hf : fb < w.heap.size) (hk : Keep (fun q => q = fb) W W') : W'.heap[w.heap.size]? = W.heap[w.heap.size]? ∧ W'.heap[w.heap.size + 1]? = W.heap[w.heap.size + 1]? ∧ W'.heap[w.heap.size + 1 + 1]? = W.heap[w.heap.size + 1 + 1]? :=
  ⟨hk.block _ (blk_lt h.c0) (by omega), hk.block _ (blk_lt h.c1) (by omega), hk.block _ (blk_lt h.c2) (by omega)⟩
/-- an effect that is stored at rb. -/
def effObj (e : Ef) (Aa : Option Addr) (ca : Nat) (Ab : Option Addr) (cb : Nat) : Obj := .cells #[.int .i64 e.kind, .int .i64 e.value, .int .i64 e.reg, .int .i64 e.fn, .int .i64 e.hand, .int .i64 e.why, .slice Aa e.args.length ca, .slice Ab e.path.length cb] 36
def storeE (w : World) (rb : Nat) (e : Ef) (Aa : Option Addr) (ca : Nat) (Ab : Option Addr) (cb : Nat) : World :=
  (((((((w.setCell ⟨rb, 0, none⟩ (.int .i64 e.kind)).setCell ⟨rb, 1, none⟩ (.int .i64 e.value)).setCell ⟨rb, 2, none⟩ (.int .i64 e.reg)).setCell ⟨rb, 3, none⟩ (.int .i64 e.fn)).setCell ⟨rb, 4, none⟩ (.int .i64 e.hand)).setCell ⟨rb, 5, none⟩ (.int .i64 e.why)).setCell ⟨rb, 6, none⟩ (.slice Aa e.args.length ca)).setCell ⟨rb, 7, none⟩ (.slice Ab e.path.length cb)
theorem storeE_at {w : World} {rb : Nat} {v0 v1 v2 v3 v4 v5 v6 v7 : Value} (h : w.heap[rb]? = some (.cells #[v0, v1, v2, v3, v4, v5, v6, v7] 36 (0, 0))) (e : Ef) (Aa : Option Addr) (ca : Nat) (Ab : Option Addr) (cb : Nat) : (storeE w rb e Aa ca Ab cb).heap[rb]? = some (effObj e Aa ca Ab cb) ∧ Keep (fun q => q = rb) w (storeE w rb e Aa ca Ab cb) := by
  unfold storeE
  obtain ⟨w0, hw0⟩ : ∃ w0, w0 = w.setCell ⟨rb, 0, none⟩ (.int .i64 e.kind) := ⟨_, rfl⟩
  rw [← hw0]
  have h0 : w0.heap[rb]? = some (.cells #[.int .i64 e.kind, v1, v2, v3, v4, v5, v6, v7] 36 (0, 0)) := by rw [hw0]; exact blk_set h 0 (.int .i64 e.kind)
  have k0 : Keep (fun q => q = rb) w w0 := by rw [hw0]; exact (Keep.refl (fun q => q = rb) w).set (p := ⟨rb, 0, none⟩) (.inr rfl) _
  obtain ⟨w1, hw1⟩ : ∃ w1, w1 = w0.setCell ⟨rb, 1, none⟩ (.int .i64 e.value) := ⟨_, rfl⟩
  rw [← hw1]
  have h1 : w1.heap[rb]? = some (.cells #[.int .i64 e.kind, .int .i64 e.value, v2, v3, v4, v5, v6, v7] 36 (0, 0)) := by rw [hw1]; exact blk_set h0 1 (.int .i64 e.value)
  have k1 : Keep (fun q => q = rb) w w1 := by rw [hw1]; exact (k0).set (p := ⟨rb, 1, none⟩) (.inr rfl) _
  obtain ⟨w2, hw2⟩ : ∃ w2, w2 = w1.setCell ⟨rb, 2, none⟩ (.int .i64 e.reg) := ⟨_, rfl⟩
  rw [← hw2]
  have h2 : w2.heap[rb]? = some (.cells #[.int .i64 e.kind, .int .i64 e.value, .int .i64 e.reg, v3, v4, v5, v6, v7] 36 (0, 0)) := by rw [hw2]; exact blk_set h1 2 (.int .i64 e.reg)
  have k2 : Keep (fun q => q = rb) w w2 := by rw [hw2]; exact (k1).set (p := ⟨rb, 2, none⟩) (.inr rfl) _
  obtain ⟨w3, hw3⟩ : ∃ w3, w3 = w2.setCell ⟨rb, 3, none⟩ (.int .i64 e.fn) := ⟨_, rfl⟩
  rw [← hw3]
  have h3 : w3.heap[rb]? = some (.cells #[.int .i64 e.kind, .int .i64 e.value, .int .i64 e.reg, .int .i64 e.fn, v4, v5, v6, v7] 36 (0, 0)) := by rw [hw3]; exact blk_set h2 3 (.int .i64 e.fn)
  have k3 : Keep (fun q => q = rb) w w3 := by rw [hw3]; exact (k2).set (p := ⟨rb, 3, none⟩) (.inr rfl) _
  obtain ⟨w4, hw4⟩ : ∃ w4, w4 = w3.setCell ⟨rb, 4, none⟩ (.int .i64 e.hand) := ⟨_, rfl⟩
  rw [← hw4]
  have h4 : w4.heap[rb]? = some (.cells #[.int .i64 e.kind, .int .i64 e.value, .int .i64 e.reg, .int .i64 e.fn, .int .i64 e.hand, v5, v6, v7] 36 (0, 0)) := by rw [hw4]; exact blk_set h3 4 (.int .i64 e.hand)
  have k4 : Keep (fun q => q = rb) w w4 := by rw [hw4]; exact (k3).set (p := ⟨rb, 4, none⟩) (.inr rfl) _
  obtain ⟨w5, hw5⟩ : ∃ w5, w5 = w4.setCell ⟨rb, 5, none⟩ (.int .i64 e.why) := ⟨_, rfl⟩
  rw [← hw5]
  have h5 : w5.heap[rb]? = some (.cells #[.int .i64 e.kind, .int .i64 e.value, .int .i64 e.reg, .int .i64 e.fn, .int .i64 e.hand, .int .i64 e.why, v6, v7] 36 (0, 0)) := by rw [hw5]; exact blk_set h4 5 (.int .i64 e.why)
  have k5 : Keep (fun q => q = rb) w w5 := by rw [hw5]; exact (k4).set (p := ⟨rb, 5, none⟩) (.inr rfl) _
  obtain ⟨w6, hw6⟩ : ∃ w6, w6 = w5.setCell ⟨rb, 6, none⟩ (.slice Aa e.args.length ca) := ⟨_, rfl⟩
  rw [← hw6]
  have h6 : w6.heap[rb]? = some (.cells #[.int .i64 e.kind, .int .i64 e.value, .int .i64 e.reg, .int .i64 e.fn, .int .i64 e.hand, .int .i64 e.why, .slice Aa e.args.length ca, v7] 36 (0, 0)) := by rw [hw6]; exact blk_set h5 6 (.slice Aa e.args.length ca)
  have k6 : Keep (fun q => q = rb) w w6 := by rw [hw6]; exact (k5).set (p := ⟨rb, 6, none⟩) (.inr rfl) _
  obtain ⟨w7, hw7⟩ : ∃ w7, w7 = w6.setCell ⟨rb, 7, none⟩ (.slice Ab e.path.length cb) := ⟨_, rfl⟩
  rw [← hw7]
  have h7 : w7.heap[rb]? = some (.cells #[.int .i64 e.kind, .int .i64 e.value, .int .i64 e.reg, .int .i64 e.fn, .int .i64 e.hand, .int .i64 e.why, .slice Aa e.args.length ca, .slice Ab e.path.length cb] 36 (0, 0)) := by rw [hw7]; exact blk_set h6 7 (.slice Ab e.path.length cb)
  have k7 : Keep (fun q => q = rb) w w7 := by rw [hw7]; exact (k6).set (p := ⟨rb, 7, none⟩) (.inr rfl) _
  exact ⟨h7, k7⟩
theorem eff_results {fn : Func} {k : Nat} (hr : fn.results = #[.cell k 36]) {tmps : Array Value} {w : World} {rb : Nat} {e : Ef} {Aa : Option Addr} {ca : Nat} {Ab : Option Addr} {cb : Nat} (t : tmps.getD k undef = .pointer (some ⟨rb, 0, none⟩)) (c : w.heap[rb]? = some (effObj e Aa ca Ab cb)) :
    (results fn tmps).run Try.prog w = .ok (efV e Aa ca Ab cb) w := by
  have q0 := blk_cell c 0
  have q1 := blk_cell c 1
  have q2 := blk_cell c 2
  have q3 := blk_cell c 3
  have q4 := blk_cell c 4
  have q5 := blk_cell c 5
  have q6 := blk_cell c 6
  have q7 := blk_cell c 7
  simp only [Array.getD_eq_getD_getElem?] at t
  simp [results, hr, go_sem, t, q0, q1, q2, q3, q4, q5, q6, q7, efV]
end Go.Proofs.Ytcciejcpijlkfaa.H

set_option linter.unusedVariables false
set_option linter.unusedSimpArgs false
namespace Go.Hay
open Go.RowKit
inductive Turns where
  | done
  | take (i : Nat) (t : Turns)
  | op (i : Nat) (t : Turns)
  | fin (i : Nat) (t : Turns)
  | alt (i j : Nat) (t u : Turns)
def Turns.many : Turns → Nat
  | .done => 0
  | .take _ t => t.many + 1
  | .op _ t => t.many + 1
  | .fin _ t => t.many + 1
  | .alt _ _ t _ => t.many + 1
/-- takes, one behind the other. -/
def Turns.takes : List Nat → Turns → Turns
  | [], t => t
  | i :: l, t => .take i (takes l t)
section
variable {P : Program} {md : Region.Mode} {ops : Array Oper} {Q : Exit → Act → World → Prop} {S : World → Prop} {F : List Nat}
def runT (P : Program) (ops : Array Oper) (Q : Exit → Act → World → Prop) (S : World → Prop) : Turns → Act → World → Prop
  | .done, a, w => Q .normal a w
  | .take i t, a, w => ∃ o v, ops[i]? = some o ∧ YieldsIf P ops S o v a ∧ S w ∧ runT P ops Q S t (a.put o.dst v) w
  | .op i t, a, w => wpOp P ops Q i (fun a' w' => S w' ∧ runT P ops Q S t a' w') a w
  | .fin i t, a, w => wpOp P ops Q i (fun a' w' => runT P ops Q S t a' w') a w
  | .alt i j t u, a, w => wpOp P ops Q i (fun a' w' => S w' ∧ runT P ops Q S t a' w') a w ∧ wpOp P ops Q j (fun a' w' => S w' ∧ runT P ops Q S u a' w') a w
def okT (md : Region.Mode) (ops : Array Oper) (F : List Nat) : Turns → Array Bool → Bool
  | .done, listed => (Region.ready md ops listed).isEmpty
  | .take i t, listed => (Region.ready md ops listed).contains i && Region.free md ops listed i && blocks md ops F i && !F.contains i && okT md ops F t (listed.setIfInBounds i true)
  | .op i t, listed => (Region.ready md ops listed == [i]) && okT md ops F t (listed.setIfInBounds i true)
  | .fin i t, listed => (Region.ready md ops listed == [i]) && F.contains i && okT md ops F t (listed.setIfInBounds i true)
  | .alt i j t u, listed => (Region.ready md ops listed == [i, j]) && t.many == u.many && okT md ops F t (listed.setIfInBounds i true) && okT md ops F u (listed.setIfInBounds j true)
theorem wpAnyF_T (hs : Region.noSelect ops = true) (hQ : ∀ o ∈ ops.toList, ∀ c a v w, Q (.panic c) (a.put o.dst v) w → Q (.panic c) a w) :
    ∀ (t : Turns) (listed : Array Bool) (a : Act) (w : World), Closed md ops listed → okT md ops F t listed = true → runT P ops Q S t a w → wpAnyF P md ops Q S F t.many listed a w
  | .done, listed, a, w, _, hk, h => ⟨by simpa [okT] using hk, h⟩
  | .take i t, listed, a, w, inv, hk, h => by
    simp only [okT, Bool.and_eq_true, Bool.not_eq_true'] at hk
    obtain ⟨o, v, ho, hy, hS, hr⟩ := h
    have hi : i ∈ Region.ready md ops listed := by simpa using hk.1.1.1.1
    exact wpAnyF_first ho (Region.noSelect_spec hs) (fun c a w => hQ o (Array.mem_toList_iff.2 (Array.mem_of_getElem? ho)) c a v w) hk.1.1.2 t.many listed a w inv hk.1.2
      (Region.free_spec ho hk.1.1.1.2) hi hy hS (wpAnyF_T hs hQ t _ _ _ (inv.set hi) hk.2 hr)
  | .op i t, listed, a, w, inv, hk, h => by
    simp only [okT, Bool.and_eq_true, beq_iff_eq] at hk
    have hi : i ∈ Region.ready md ops listed := by rw [hk.1]; simp
    exact wpAnyF_one hk.1 (wpOp_mono (fun a' w' h' => ⟨h'.1, wpAnyF_T hs hQ t _ _ _ (inv.set hi) hk.2 h'.2⟩) h)
  | .fin i t, listed, a, w, inv, hk, h => by
    simp only [okT, Bool.and_eq_true, beq_iff_eq] at hk
    refine ⟨fun h0 => (by rw [hk.1.1] at h0; cases h0), fun j hj => ?_⟩
    have hji : j = i := by rw [hk.1.1] at hj; simpa using hj
    subst hji
    exact wpOp_mono (fun a' w' h' => ⟨fun hc => (by rw [hk.1.2] at hc; cases hc), wpAnyF_T hs hQ t _ _ _ (inv.set hj) hk.2 h'⟩) h
  | .alt i j t u, listed, a, w, inv, hk, h => by
    simp only [okT, Bool.and_eq_true, beq_iff_eq] at hk
    obtain ⟨⟨⟨h1, h2⟩, h3⟩, h4⟩ := hk
    have hi : i ∈ Region.ready md ops listed := by rw [h1]; simp
    have hj : j ∈ Region.ready md ops listed := by rw [h1]; simp
    refine ⟨fun h0 => (by rw [h1] at h0; cases h0), fun k hk => ?_⟩
    have hk2 : k = i ∨ k = j := by rw [h1] at hk; simpa using hk
    rcases hk2 with rfl | rfl
    · exact wpOp_mono (fun a' w' h' => ⟨fun _ => h'.1, wpAnyF_T hs hQ t _ _ _ (inv.set hi) h3 h'.2⟩) h.1
    · have := fun a' w' (h' : S w' ∧ runT P ops Q S u a' w') => wpAnyF_T hs hQ u _ a' w' (inv.set hj) h4 h'.2
      rw [← h2] at this
      exact wpOp_mono (fun a' w' h' => ⟨fun _ => h'.1, this a' w' h'⟩) h.2
theorem wp_region_T {id : Nat} {a : Act} {w : World} (S : World → Prop) (F : List Nat) (t : Turns) (hm : P.follows .mixedOrders = true) (hs : Region.noSelect ops = true) (hl : t.many = ops.size)
    (hk : okT .any ops F t (Array.replicate ops.size false) = true)
    (hQ : ∀ o ∈ ops.toList, ∀ c a v w, Q (.panic c) (a.put o.dst v) w → Q (.panic c) a w)
    (h : runT P ops Q S t a w.drew) : (Code.region id ops true).wp P Q a w :=
  wp_region_any hm (wpAny_of_F _ _ _ _ (hl ▸ wpAnyF_T hs hQ t _ _ _ Closed.start hk h))
theorem runT_done {a : Act} {w : World} (h : Q .normal a w) : runT P ops Q S .done a w := h
theorem runT_take {i : Nat} {o : Oper} {v : Value} {t : Turns} {a : Act} {w : World} (ho' : ops.toList[i]? = some o) (hw : Region.wanted o (yielded ops a.tmps) = true)
    (hy : ∀ w', S w' → (execOp a.eval o).run P w' = .ok (.value v) w') (hS : S w) (h : runT P ops Q S t (a.put o.dst v) w) : runT P ops Q S (.take i t) a w :=
  ⟨o, v, by simpa using ho', .inl ⟨hw, hy⟩, hS, h⟩
theorem runT_skip {i : Nat} {o : Oper} {t : Turns} {a : Act} {w : World} (ho' : ops.toList[i]? = some o) (hw : Region.wanted o (yielded ops a.tmps) = false)
    (hS : S w) (h : runT P ops Q S t (a.put o.dst undef) w) : runT P ops Q S (.take i t) a w :=
  ⟨o, undef, by simpa using ho', .inr ⟨hw, rfl⟩, hS, h⟩
theorem runT_op {i : Nat} {o : Oper} {t : Turns} {a : Act} {w : World} (ho' : ops.toList[i]? = some o) (hw : Region.wanted o (yielded ops a.tmps) = true)
    (h : ∀ K : Act → World → Prop, (∀ a' w', S w' → runT P ops Q S t a' w' → K a' w') → o.wp P a w K Q) : runT P ops Q S (.op i t) a w :=
  wpOp_at (R := fun a' w' => S w' ∧ runT P ops Q S t a' w') ho' hw fun K hK => h K fun a' w' hS hr => hK a' w' ⟨hS, hr⟩
theorem runT_fin {i : Nat} {o : Oper} {t : Turns} {a : Act} {w : World} (ho' : ops.toList[i]? = some o) (hw : Region.wanted o (yielded ops a.tmps) = true)
    (h : ∀ K : Act → World → Prop, (∀ a' w', runT P ops Q S t a' w' → K a' w') → o.wp P a w K Q) : runT P ops Q S (.fin i t) a w :=
  wpOp_at (R := fun a' w' => runT P ops Q S t a' w') ho' hw h
theorem runT_alt {i j : Nat} {oi oj : Oper} {t u : Turns} {a : Act} {w : World} (hoi : ops.toList[i]? = some oi) (hoj : ops.toList[j]? = some oj) (hwi : Region.wanted oi (yielded ops a.tmps) = true) (hwj : Region.wanted oj (yielded ops a.tmps) = true)
    (h1 : ∀ K : Act → World → Prop, (∀ a' w', S w' → runT P ops Q S t a' w' → K a' w') → oi.wp P a w K Q)
    (h2 : ∀ K : Act → World → Prop, (∀ a' w', S w' → runT P ops Q S u a' w' → K a' w') → oj.wp P a w K Q) : runT P ops Q S (.alt i j t u) a w :=
  ⟨wpOp_at (R := fun a' w' => S w' ∧ runT P ops Q S t a' w') hoi hwi fun K hK => h1 K fun a' w' hS hr => hK a' w' ⟨hS, hr⟩, wpOp_at (R := fun a' w' => S w' ∧ runT P ops Q S u a' w') hoj hwj fun K hK => h2 K fun a' w' hS hr => hK a' w' ⟨hS, hr⟩⟩
end
end Go.Hay

set_option linter.unusedVariables false
set_option linter.unusedSimpArgs false
namespace Go.Proofs.Ytcciejcpijlkfaa.H
open Go.RowKit Go.Hay Go.Proofs.YtcciejcpijlkfaaW.PrintWords Go.Proofs.YtcciejcpijlkfaaW.PrintLast Go.Proofs.YtcciejcpijlkfaaW.PrintMore
theorem panic_via {P : Program} {fn : Func} {R : Ending → World → Prop} {ops : Array Oper} {Q : Exit → Act → World → Prop} (hQ : ∀ c a w, Q (.panic c) a w = bodyPost P fn R (.panic c) a w) :
    ∀ o ∈ ops.toList, ∀ c a v w, Q (.panic c) (a.put o.dst v) w → Q (.panic c) a w := by
  intro o ho c a v w h
  rw [hQ] at h ⊢
  exact panic_put (P := P) (fn := fn) (R := R) o ho c a v w h
def wrongV (f at_ e : Int) : Value := .iface 155 (.agg #[.int .i64 f, .int .i64 at_, .int .i64 e])
set_option maxRecDepth 100000 in
theorem need_ok (A : Option Addr) (n c : Nat) (f at_ e : Int) (w : World) : Calls Try.prog 60 #[.agg #[.slice A n c, .int .i64 f, .int .i64 at_], .bool true, .int .i64 e] w fun x w' => x = .returned (.tuple #[]) ∧ Below w.heap.size w w' := by
  have hu158 := Try.underlying158
  go_enter Try.func60, Try.ntmps60
  go_wp2
  go_end0
  exact ⟨rfl, (Below.refl _ _).alloc (Nat.le_refl _) _⟩
set_option maxRecDepth 100000 in
theorem need_no (A : Option Addr) (n c : Nat) (f at_ e : Int) (w : World) : Calls Try.prog 60 #[.agg #[.slice A n c, .int .i64 f, .int .i64 at_], .bool false, .int .i64 e] w fun x w' => x = .panicked [{ v := wrongV f at_ e, recovered := false }] ∧ Below w.heap.size w w' := by
  have hu158 := Try.underlying158
  have hu155 := Try.underlying155
  go_enter Try.func60, Try.ntmps60
  go_wp2
  exact ⟨rfl, rfl, (Below.refl _ _).alloc (Nat.le_refl _) _⟩
def stopPost (f at_ : Int) (r : Option Int) (w : World) (x : Ending) (w' : World) : Prop := Below w.heap.size w w' ∧ match r with
  | none => x = .returned (.tuple #[])
  | some e => x = .panicked [{ v := wrongV f at_ e, recovered := false }]
theorem need_any (A : Option Addr) (n c : Nat) (f at_ e : Int) (b : Bool) (w : World) : Calls Try.prog 60 #[.agg #[.slice A n c, .int .i64 f, .int .i64 at_], .bool b, .int .i64 e] w (stopPost f at_ (if b then none else some e) w) := by
  cases b with
  | true => exact (need_ok A n c f at_ e w).mono fun x w' h => ⟨h.2, h.1⟩
  | false => exact (need_no A n c f at_ e w).mono fun x w' h => ⟨h.2, h.1⟩
set_option maxRecDepth 100000 in
set_option maxHeartbeats 4000000 in
theorem field_1 (A : Option Addr) (c : Nat) (l : List S68) (f : Nat) (at_ n : Int) (w : World) (hf : f < l.length) :
    Calls Try.prog 81 #[.agg #[.slice A l.length c, .int .i64 f, .int .i64 at_], .int .i64 n, .int .i64 1] w (stopPost f at_ (fieldE l.length l[f].f1.length n 1) w) := by
  have hu158 := Try.underlying158
  have hbl := (Below.refl w.heap.size w).alloc (Nat.le_refl _) (.cells #[.slice A l.length c, .int .i64 f, .int .i64 at_] 158)
  have HB := Aside0.mk hbl
  clear hbl
  by_cases h0 : (0) ≤ n
  · by_cases h1 : n < (8)
    · have hI : inB (0) (8) n = true := by simp only [inB, Bool.and_eq_true, decide_eq_true_eq]; exact ⟨h0, h1⟩
      have hE : fieldE l.length l[f].f1.length n 1 = none := by simp [fieldE, hI]
      rw [hE]
      clear hI hE
      go_enter Try.func81, Try.ntmps81
      go_wp2_with (go_at_call 60; refine (need_ok A l.length c f at_ 6 _).mono ?_; rintro x w' ⟨rfl, hb⟩)
      go_end0
      exact ⟨HB.out.trans (hb.mono HB.out.size), rfl⟩
    · have hI : inB (0) (8) n = false := by simp only [inB, Bool.and_eq_false_iff, decide_eq_false_iff_not]; exact .inr h1
      have hE : fieldE l.length l[f].f1.length n 1 = some (6) := by simp [fieldE, hI]
      rw [hE]
      clear hI hE
      go_enter Try.func81, Try.ntmps81
      go_wp2_with (go_at_call 60; refine (need_no A l.length c f at_ 6 _).mono ?_; rintro x w' ⟨rfl, hb⟩)
      exact ⟨rfl, HB.out.trans (hb.mono HB.out.size), rfl⟩
  · have hI : inB (0) (8) n = false := by simp only [inB, Bool.and_eq_false_iff, decide_eq_false_iff_not]; exact .inl h0
    have hE : fieldE l.length l[f].f1.length n 1 = some (6) := by simp [fieldE, hI]
    rw [hE]
    clear hI hE
    go_enter Try.func81, Try.ntmps81
    go_wp2_with (go_at_call 60; refine (need_no A l.length c f at_ 6 _).mono ?_; rintro x w' ⟨rfl, hb⟩)
    exact ⟨rfl, HB.out.trans (hb.mono HB.out.size), rfl⟩
set_option maxRecDepth 100000 in
set_option maxHeartbeats 4000000 in
theorem field_2 (A : Option Addr) (c : Nat) (l : List S68) (f : Nat) (at_ n : Int) (w : World) (hf : f < l.length) :
    Calls Try.prog 81 #[.agg #[.slice A l.length c, .int .i64 f, .int .i64 at_], .int .i64 n, .int .i64 2] w (stopPost f at_ (fieldE l.length l[f].f1.length n 2) w) := by
  have hu158 := Try.underlying158
  have hbl := (Below.refl w.heap.size w).alloc (Nat.le_refl _) (.cells #[.slice A l.length c, .int .i64 f, .int .i64 at_] 158)
  have HB := Aside0.mk hbl
  clear hbl
  by_cases h0 : (0) ≤ n
  · by_cases h1 : n < (4)
    · have hI : inB (0) (4) n = true := by simp only [inB, Bool.and_eq_true, decide_eq_true_eq]; exact ⟨h0, h1⟩
      have hE : fieldE l.length l[f].f1.length n 2 = none := by simp [fieldE, hI]
      rw [hE]
      clear hI hE
      go_enter Try.func81, Try.ntmps81
      go_wp2_with (go_at_call 60; refine (need_ok A l.length c f at_ 6 _).mono ?_; rintro x w' ⟨rfl, hb⟩)
      go_end0
      exact ⟨HB.out.trans (hb.mono HB.out.size), rfl⟩
    · have hI : inB (0) (4) n = false := by simp only [inB, Bool.and_eq_false_iff, decide_eq_false_iff_not]; exact .inr h1
      have hE : fieldE l.length l[f].f1.length n 2 = some (6) := by simp [fieldE, hI]
      rw [hE]
      clear hI hE
      go_enter Try.func81, Try.ntmps81
      go_wp2_with (go_at_call 60; refine (need_no A l.length c f at_ 6 _).mono ?_; rintro x w' ⟨rfl, hb⟩)
      exact ⟨rfl, HB.out.trans (hb.mono HB.out.size), rfl⟩
  · have hI : inB (0) (4) n = false := by simp only [inB, Bool.and_eq_false_iff, decide_eq_false_iff_not]; exact .inl h0
    have hE : fieldE l.length l[f].f1.length n 2 = some (6) := by simp [fieldE, hI]
    rw [hE]
    clear hI hE
    go_enter Try.func81, Try.ntmps81
    go_wp2_with (go_at_call 60; refine (need_no A l.length c f at_ 6 _).mono ?_; rintro x w' ⟨rfl, hb⟩)
    exact ⟨rfl, HB.out.trans (hb.mono HB.out.size), rfl⟩
set_option maxRecDepth 100000 in
set_option maxHeartbeats 4000000 in
theorem field_3 (A : Option Addr) (c : Nat) (l : List S68) (f : Nat) (at_ n : Int) (w : World) (hf : f < l.length) :
    Calls Try.prog 81 #[.agg #[.slice A l.length c, .int .i64 f, .int .i64 at_], .int .i64 n, .int .i64 3] w (stopPost f at_ (fieldE l.length l[f].f1.length n 3) w) := by
  have hu158 := Try.underlying158
  have hbl := (Below.refl w.heap.size w).alloc (Nat.le_refl _) (.cells #[.slice A l.length c, .int .i64 f, .int .i64 at_] 158)
  have HB := Aside0.mk hbl
  clear hbl
  by_cases h0 : (0) ≤ n
  · by_cases h1 : n < (l.length)
    · have hI : inB (0) (l.length) n = true := by simp only [inB, Bool.and_eq_true, decide_eq_true_eq]; exact ⟨h0, h1⟩
      have hE : fieldE l.length l[f].f1.length n 3 = none := by simp [fieldE, hI]
      rw [hE]
      clear hI hE
      go_enter Try.func81, Try.ntmps81
      go_wp2_with (go_at_call 60; refine (need_ok A l.length c f at_ 5 _).mono ?_; rintro x w' ⟨rfl, hb⟩)
      go_end0
      exact ⟨HB.out.trans (hb.mono HB.out.size), rfl⟩
    · have hI : inB (0) (l.length) n = false := by simp only [inB, Bool.and_eq_false_iff, decide_eq_false_iff_not]; exact .inr h1
      have hE : fieldE l.length l[f].f1.length n 3 = some (5) := by simp [fieldE, hI]
      rw [hE]
      clear hI hE
      go_enter Try.func81, Try.ntmps81
      go_wp2_with (go_at_call 60; refine (need_no A l.length c f at_ 5 _).mono ?_; rintro x w' ⟨rfl, hb⟩)
      exact ⟨rfl, HB.out.trans (hb.mono HB.out.size), rfl⟩
  · have hI : inB (0) (l.length) n = false := by simp only [inB, Bool.and_eq_false_iff, decide_eq_false_iff_not]; exact .inl h0
    have hE : fieldE l.length l[f].f1.length n 3 = some (5) := by simp [fieldE, hI]
    rw [hE]
    clear hI hE
    go_enter Try.func81, Try.ntmps81
    go_wp2_with (go_at_call 60; refine (need_no A l.length c f at_ 5 _).mono ?_; rintro x w' ⟨rfl, hb⟩)
    exact ⟨rfl, HB.out.trans (hb.mono HB.out.size), rfl⟩
set_option maxRecDepth 100000 in
set_option maxHeartbeats 4000000 in
theorem field_6 (A : Option Addr) (c : Nat) (l : List S68) (f : Nat) (at_ n : Int) (w : World) (hf : f < l.length) :
    Calls Try.prog 81 #[.agg #[.slice A l.length c, .int .i64 f, .int .i64 at_], .int .i64 n, .int .i64 6] w (stopPost f at_ (fieldE l.length l[f].f1.length n 6) w) := by
  have hu158 := Try.underlying158
  have hbl := (Below.refl w.heap.size w).alloc (Nat.le_refl _) (.cells #[.slice A l.length c, .int .i64 f, .int .i64 at_] 158)
  have HB := Aside0.mk hbl
  clear hbl
  by_cases h0 : (16) ≤ n
  · by_cases h1 : n < (2147483648)
    · have hI : inB (16) (2147483648) n = true := by simp only [inB, Bool.and_eq_true, decide_eq_true_eq]; exact ⟨h0, h1⟩
      have hE : fieldE l.length l[f].f1.length n 6 = none := by simp [fieldE, hI]
      rw [hE]
      clear hI hE
      go_enter Try.func81, Try.ntmps81
      go_wp2_with (go_at_call 60; refine (need_ok A l.length c f at_ 6 _).mono ?_; rintro x w' ⟨rfl, hb⟩)
      go_end0
      exact ⟨HB.out.trans (hb.mono HB.out.size), rfl⟩
    · have hI : inB (16) (2147483648) n = false := by simp only [inB, Bool.and_eq_false_iff, decide_eq_false_iff_not]; exact .inr h1
      have hE : fieldE l.length l[f].f1.length n 6 = some (6) := by simp [fieldE, hI]
      rw [hE]
      clear hI hE
      go_enter Try.func81, Try.ntmps81
      go_wp2_with (go_at_call 60; refine (need_no A l.length c f at_ 6 _).mono ?_; rintro x w' ⟨rfl, hb⟩)
      exact ⟨rfl, HB.out.trans (hb.mono HB.out.size), rfl⟩
  · have hI : inB (16) (2147483648) n = false := by simp only [inB, Bool.and_eq_false_iff, decide_eq_false_iff_not]; exact .inl h0
    have hE : fieldE l.length l[f].f1.length n 6 = some (6) := by simp [fieldE, hI]
    rw [hE]
    clear hI hE
    go_enter Try.func81, Try.ntmps81
    go_wp2_with (go_at_call 60; refine (need_no A l.length c f at_ 6 _).mono ?_; rintro x w' ⟨rfl, hb⟩)
    exact ⟨rfl, HB.out.trans (hb.mono HB.out.size), rfl⟩
set_option maxRecDepth 100000 in
set_option maxHeartbeats 4000000 in
theorem field_4 (A : Option Addr) (c : Nat) (l : List S68) (f : Nat) (at_ n : Int) (w : World) (hf : f < l.length) :
    Calls Try.prog 81 #[.agg #[.slice A l.length c, .int .i64 f, .int .i64 at_], .int .i64 n, .int .i64 4] w (stopPost f at_ (fieldE l.length l[f].f1.length n 4) w) := by
  have hu158 := Try.underlying158
  have hbl := (Below.refl w.heap.size w).alloc (Nat.le_refl _) (.cells #[.slice A l.length c, .int .i64 f, .int .i64 at_] 158)
  have HB := Aside0.mk hbl
  clear hbl
  by_cases h0 : (-2147483648) ≤ n
  · by_cases h1 : n < (2147483648)
    · have hI : inB (-2147483648) (2147483648) n = true := by simp only [inB, Bool.and_eq_true, decide_eq_true_eq]; exact ⟨h0, h1⟩
      have hE : fieldE l.length l[f].f1.length n 4 = none := by simp [fieldE, hI]
      rw [hE]
      clear hI hE
      go_enter Try.func81, Try.ntmps81
      go_wp2_with (go_at_call 60; refine (need_ok A l.length c f at_ 6 _).mono ?_; rintro x w' ⟨rfl, hb⟩)
      go_end0
      exact ⟨HB.out.trans (hb.mono HB.out.size), rfl⟩
    · have hI : inB (-2147483648) (2147483648) n = false := by simp only [inB, Bool.and_eq_false_iff, decide_eq_false_iff_not]; exact .inr h1
      have hE : fieldE l.length l[f].f1.length n 4 = some (6) := by simp [fieldE, hI]
      rw [hE]
      clear hI hE
      go_enter Try.func81, Try.ntmps81
      go_wp2_with (go_at_call 60; refine (need_no A l.length c f at_ 6 _).mono ?_; rintro x w' ⟨rfl, hb⟩)
      exact ⟨rfl, HB.out.trans (hb.mono HB.out.size), rfl⟩
  · have hI : inB (-2147483648) (2147483648) n = false := by simp only [inB, Bool.and_eq_false_iff, decide_eq_false_iff_not]; exact .inl h0
    have hE : fieldE l.length l[f].f1.length n 4 = some (6) := by simp [fieldE, hI]
    rw [hE]
    clear hI hE
    go_enter Try.func81, Try.ntmps81
    go_wp2_with (go_at_call 60; refine (need_no A l.length c f at_ 6 _).mono ?_; rintro x w' ⟨rfl, hb⟩)
    exact ⟨rfl, HB.out.trans (hb.mono HB.out.size), rfl⟩
set_option maxRecDepth 100000 in
set_option maxHeartbeats 4000000 in
theorem field_5 (A : Option Addr) (c : Nat) (l : List S68) (f : Nat) (at_ n : Int) (w : World) (hC : k68.C w A l.length l) (hf : f < l.length) :
    Calls Try.prog 81 #[.agg #[.slice A l.length c, .int .i64 f, .int .i64 at_], .int .i64 n, .int .i64 5] w (stopPost f at_ (fieldE l.length l[f].f1.length n 5) w) := by
  have hu158 := Try.underlying158
  have hbl := (Below.refl w.heap.size w).alloc (Nat.le_refl _) (.cells #[.slice A l.length c, .int .i64 f, .int .i64 at_] 158)
  have hrd : rd_T68 l (f : Int) = l[f] := by simp [rd_T68, hf]
  obtain ⟨ad, Ai, ci, rfl, p0, p1, hci, hCi⟩ := at_T68 hC (f : Int) (by omega) (by omega)
  rw [hrd] at p1 hci
  have hbx := alloc_blk w (.cells #[.slice (some ad) l.length c, .int .i64 f, .int .i64 at_] 158)
  have p1' := (hbl.cell (World.block_lt_of_cell? w _ p1)).trans p1
  rw [Int.toNat_natCast] at p1'
  have HB := Aside0.mk (And.intro hbl (And.intro hbx p1'))
  have hfl : ((f : Int) < (l.length : Int)) = True := eq_true (by omega)
  clear hC hbl p0 p1 hCi hrd hbx p1'
  have HFI := Aside0.mk hfl
  by_cases h0 : 0 ≤ n
  · by_cases h1 : n < (l[f].f1.length : Int)
    · have hI : inB 0 l[f].f1.length n = true := by simp only [inB, Bool.and_eq_true, decide_eq_true_eq]; exact ⟨h0, h1⟩
      have hE : fieldE l.length l[f].f1.length n 5 = none := by simp [fieldE, hI]
      rw [hE]
      clear hI hE
      go_enter Try.func81, Try.ntmps81
      go_wp2_with fail
      refine wp_region_seq (fun w' => Below (w.alloc (.cells #[.slice (some ad) l.length c, .int .i64 f, .int .i64 at_] 158)).heap.size (w.alloc (.cells #[.slice (some ad) l.length c, .int .i64 f, .int .i64 at_] 158)) w') [15] [.take 0, .take 1, .take 2, .take 3, .take 4, .take 5, .take 6, .take 7, .take 8, .take 9, .take 10, .take 11, .take 12, .take 13, .take 14, .fin 15] (by kernel_rfl) (by kernel_rfl) rfl (by kernel_rfl) (panic_via (P := Try.prog) (fn := Try.f81) (fun _ _ _ => rfl)) ?_
      have hs : Below (w.alloc (.cells #[.slice (some ad) l.length c, .int .i64 f, .int .i64 at_] 158)).heap.size (w.alloc (.cells #[.slice (some ad) l.length c, .int .i64 f, .int .i64 at_] 158)) (w.alloc (.cells #[.slice (some ad) l.length c, .int .i64 f, .int .i64 at_] 158)).drew := (Below.refl _ _).drew
      repeat (
        (first
          | (refine runSeq_take (v := ?_) (by rfl) (by rfl) (fun w' hS => ?_) hs ?_
             rotate_left
             · (have hB := (hS.block _ (blk_lt HB.out.2.1)).trans HB.out.2.1; have c0 := blk_cell hB 0; have c1 := blk_cell hB 1; have c2 := blk_cell hB 2; have q1 := (hS.cell (World.block_lt_of_cell? _ _ HB.out.2.2)).trans HB.out.2.2; go_simp; exact rfl))
          | refine runSeq_skip (by rfl) (by rfl) hs ?_)
        (try simp only [Act.put, List.setIfInBounds_toArray, List.set_cons_zero, List.set_cons_succ]))
      refine runSeq_fin (by rfl) (by rfl) (fun K hK => ?_)
      go_simp
      refine (need_any (some ad) l.length c f at_ 6 _ _).mono ?_
      rintro x w' ⟨hb, he⟩
      rw [if_pos (by first | rfl | (exact decide_eq_true h1) | (simp; omega))] at he
      subst he
      have hb2 := HB.out.1.drew.trans (hb.mono HB.out.1.size)
      refine hK _ _ ?_
      clear hK K
      refine runSeq_nil ?_
      have HB2 := Aside0.mk hb2
      clear hb hb2 hs
      go_wp2_with fail
      go_end0
      exact ⟨HB2.out, rfl⟩
    · have hI : inB 0 l[f].f1.length n = false := by simp only [inB, Bool.and_eq_false_iff, decide_eq_false_iff_not]; exact .inr h1
      have hE : fieldE l.length l[f].f1.length n 5 = some 6 := by simp [fieldE, hI]
      rw [hE]
      clear hI hE
      go_enter Try.func81, Try.ntmps81
      go_wp2_with fail
      refine wp_region_seq (fun w' => Below (w.alloc (.cells #[.slice (some ad) l.length c, .int .i64 f, .int .i64 at_] 158)).heap.size (w.alloc (.cells #[.slice (some ad) l.length c, .int .i64 f, .int .i64 at_] 158)) w') [15] [.take 0, .take 1, .take 2, .take 3, .take 4, .take 5, .take 6, .take 7, .take 8, .take 9, .take 10, .take 11, .take 12, .take 13, .take 14, .fin 15] (by kernel_rfl) (by kernel_rfl) rfl (by kernel_rfl) (panic_via (P := Try.prog) (fn := Try.f81) (fun _ _ _ => rfl)) ?_
      have hs : Below (w.alloc (.cells #[.slice (some ad) l.length c, .int .i64 f, .int .i64 at_] 158)).heap.size (w.alloc (.cells #[.slice (some ad) l.length c, .int .i64 f, .int .i64 at_] 158)) (w.alloc (.cells #[.slice (some ad) l.length c, .int .i64 f, .int .i64 at_] 158)).drew := (Below.refl _ _).drew
      repeat (
        (first
          | (refine runSeq_take (v := ?_) (by rfl) (by rfl) (fun w' hS => ?_) hs ?_
             rotate_left
             · (have hB := (hS.block _ (blk_lt HB.out.2.1)).trans HB.out.2.1; have c0 := blk_cell hB 0; have c1 := blk_cell hB 1; have c2 := blk_cell hB 2; have q1 := (hS.cell (World.block_lt_of_cell? _ _ HB.out.2.2)).trans HB.out.2.2; go_simp; exact rfl))
          | refine runSeq_skip (by rfl) (by rfl) hs ?_)
        (try simp only [Act.put, List.setIfInBounds_toArray, List.set_cons_zero, List.set_cons_succ]))
      refine runSeq_fin (by rfl) (by rfl) (fun K hK => ?_)
      go_simp
      refine (need_any (some ad) l.length c f at_ 6 _ _).mono ?_
      rintro x w' ⟨hb, he⟩
      rw [if_neg (fun h => by have := of_decide_eq_true h; omega)] at he
      subst he
      have hb2 := HB.out.1.drew.trans (hb.mono HB.out.1.size)
      exact ⟨rfl, hb2, rfl⟩
  · have hI : inB 0 l[f].f1.length n = false := by simp only [inB, Bool.and_eq_false_iff, decide_eq_false_iff_not]; exact .inl h0
    have hE : fieldE l.length l[f].f1.length n 5 = some 6 := by simp [fieldE, hI]
    rw [hE]
    clear hI hE
    have hd1 : (0 ≤ n) = False := eq_false h0
    go_enter Try.func81, Try.ntmps81
    go_wp2_with fail
    refine wp_region_seq (fun w' => Below (w.alloc (.cells #[.slice (some ad) l.length c, .int .i64 f, .int .i64 at_] 158)).heap.size (w.alloc (.cells #[.slice (some ad) l.length c, .int .i64 f, .int .i64 at_] 158)) w') [15] [.take 0, .take 1, .take 2, .take 3, .take 4, .take 5, .take 6, .take 7, .take 8, .take 9, .take 10, .take 11, .take 12, .take 13, .take 14, .fin 15] (by kernel_rfl) (by kernel_rfl) rfl (by kernel_rfl) (panic_via (P := Try.prog) (fn := Try.f81) (fun _ _ _ => rfl)) ?_
    have hs : Below (w.alloc (.cells #[.slice (some ad) l.length c, .int .i64 f, .int .i64 at_] 158)).heap.size (w.alloc (.cells #[.slice (some ad) l.length c, .int .i64 f, .int .i64 at_] 158)) (w.alloc (.cells #[.slice (some ad) l.length c, .int .i64 f, .int .i64 at_] 158)).drew := (Below.refl _ _).drew
    repeat (
      (first
        | (refine runSeq_take (v := ?_) (by rfl) (by rfl) (fun w' hS => ?_) hs ?_
           rotate_left
           · (have hB := (hS.block _ (blk_lt HB.out.2.1)).trans HB.out.2.1; have c0 := blk_cell hB 0; have c1 := blk_cell hB 1; have c2 := blk_cell hB 2; have q1 := (hS.cell (World.block_lt_of_cell? _ _ HB.out.2.2)).trans HB.out.2.2; go_simp; exact rfl))
        | refine runSeq_skip (by rfl) (by rfl) hs ?_)
      (try simp only [Act.put, List.setIfInBounds_toArray, List.set_cons_zero, List.set_cons_succ]))
    refine runSeq_fin (by rfl) (by rfl) (fun K hK => ?_)
    go_simp
    refine (need_any (some ad) l.length c f at_ 6 _ _).mono ?_
    rintro x w' ⟨hb, he⟩
    rw [if_neg (by simp)] at he
    subst he
    have hb2 := HB.out.1.drew.trans (hb.mono HB.out.1.size)
    exact ⟨rfl, hb2, rfl⟩
set_option maxRecDepth 100000 in
set_option maxHeartbeats 4000000 in
theorem field_none (A : Option Addr) (c : Nat) (l : List S68) (f : Nat) (at_ n p : Int) (w : World) (hf : f < l.length) (h1 : ¬ p = 1) (h2 : ¬ p = 2) (h3 : ¬ p = 3) (h4 : ¬ p = 4) (h5 : ¬ p = 5) (h6 : ¬ p = 6) :
    Calls Try.prog 81 #[.agg #[.slice A l.length c, .int .i64 f, .int .i64 at_], .int .i64 n, .int .i64 p] w (stopPost f at_ (fieldE l.length l[f].f1.length n p) w) := by
  have hu158 := Try.underlying158
  have hbl := (Below.refl w.heap.size w).alloc (Nat.le_refl _) (.cells #[.slice A l.length c, .int .i64 f, .int .i64 at_] 158)
  have hE : fieldE l.length l[f].f1.length n p = none := by simp [fieldE, h1, h2, h3, h4, h5, h6]
  rw [hE]
  have HB := Aside0.mk hbl
  clear hbl hE
  go_enter Try.func81, Try.ntmps81
  go_wp2_with fail
  go_end0
  exact ⟨HB.out, rfl⟩
theorem field_any (A : Option Addr) (c : Nat) (l : List S68) (f : Nat) (at_ n p : Int) (w : World) (hC : k68.C w A l.length l) (hf : f < l.length) :
    Calls Try.prog 81 #[.agg #[.slice A l.length c, .int .i64 f, .int .i64 at_], .int .i64 n, .int .i64 p] w (stopPost f at_ (fieldE l.length l[f].f1.length n p) w) := by
  by_cases h1 : p = 1
  · subst h1; exact field_1 A c l f at_ n w hf
  by_cases h2 : p = 2
  · subst h2; exact field_2 A c l f at_ n w hf
  by_cases h3 : p = 3
  · subst h3; exact field_3 A c l f at_ n w hf
  by_cases h4 : p = 4
  · subst h4; exact field_4 A c l f at_ n w hf
  by_cases h5 : p = 5
  · subst h5; exact field_5 A c l f at_ n w hC hf
  by_cases h6 : p = 6
  · subst h6; exact field_6 A c l f at_ n w hf
  exact field_none A c l f at_ n p w hf h1 h2 h3 h4 h5 h6
end Go.Proofs.Ytcciejcpijlkfaa.H

-- made by this session's gen.py over the kit's print.py; not trusted: Lean checks it
namespace Go.Proofs.Ytcciejcpijlkfaa.H
open Go.RowKit Go.Proofs.YtcciejcpijlkfaaW.PrintWords Go.Proofs.YtcciejcpijlkfaaW.PrintLast Go.Proofs.YtcciejcpijlkfaaW.PrintMore
attribute [local go_sem] max2_int min2_int max_two min_two max_three min_three max_four min_four   -- for this text's walks alone
set_option linter.unusedVariables false
set_option linter.unusedSimpArgs false

/-! ### frame_fails: function 27 -/
def frame_fails.f (a0 : Int) : Option (Int × Int × Int × Int × Int × Int × List Int × List Int) := some (8, 0, 0, 0, 0, a0, ([] : List Int), ([] : List Int))
set_option maxHeartbeats 8000000 in
set_option maxRecDepth 100000 in
theorem frame_fails.calls (a0 : Int) (r1 : Int) (r2 : Int) (r3 : Int) (r4 : Int) (r5 : Int) (r6 : Int) (r7 : List Int) (r8 : List Int) (w : World) (h : frame_fails.f a0 = some (r1, r2, r3, r4, r5, r6, r7, r8)) :
    Calls Try.prog 27 #[.int .i64 a0] w fun e w' => ∃ v6_ v7_ : Value, e = .returned (.agg #[.int .i64 r1, .int .i64 r2, .int .i64 r3, .int .i64 r4, .int .i64 r5, .int .i64 r6, v6_, v7_]) ∧ Kd.R (Kd.int .i64) 2 w' w.heap.size (fun _ => True) v6_ r7 ∧ Kd.R (Kd.int .i64) 3 w' w.heap.size (fun _ => True) v7_ r8 ∧ Below w.heap.size w w' := by
  have hu36 := Try.underlying36
  have HB := Aside0.mk (Below.refl w.heap.size w)
  have H : (some (8, 0, 0, 0, 0, a0, ([] : List Int), ([] : List Int))) = some (r1, r2, r3, r4, r5, r6, r7, r8) := h
  clear h
  simp only [Option.some.injEq, Prod.mk.injEq] at H
  obtain ⟨rfl, rfl, rfl, rfl, rfl, rfl, rfl, rfl⟩ := H
  go_enter Try.func27, Try.ntmps27
  go_wp2_with (first | ((with_reducible refine gate_dst (N := 2) rfl ?_); refine box_event ?hg (N := 2) ?hd (cs := #[.int .i64 0, .int .i64 0, .int .i64 0, .int .i64 0, .int .i64 0, .int .i64 0, .slice none 0 0, .slice none 0 0]) (t := 36) ?hr ?_; (case hd => rfl); (case hg => rfl); (case hr => first | (go_simp; done) | (go_simp; rfl)); intro gb127 hg w2 hbox hb; have n0_ := Aside0.mk (below_step (by repeat (first | (with_reducible first | exact HB.out | apply below_alloc | apply pw_below_drewN | apply below_drew1) | exact HB.out)) hb); have n1_ := Aside0.mk (hbox); have n2_ := Aside0.mk ((by rw [hg]; exact (below_size (by repeat (first | (with_reducible first | exact HB.out | apply below_alloc | apply pw_below_drewN | apply below_drew1) | exact HB.out))) : w.heap.size ≤ gb127)); have n3_ := Aside0.mk ((by rw [hg]; exact (below_size (by repeat (first | (with_reducible first | exact HB.out | apply below_alloc | apply pw_below_drewN | apply below_drew1) | exact HB.out))) : w.heap.size ≤ gb127)); clear HB; have HB := n0_; have BK127 := n1_; have GW127 := n2_; have GE127 := n3_; clear n0_ n1_ n2_ n3_; clear hb hbox hg; have hcz3_0 : w2.cell? ⟨gb127, 0, none⟩ = some (.int .i64 0) := (blk_cell BK127.out 0).trans rfl; have hcz3_1 : w2.cell? ⟨gb127, 1, none⟩ = some (.int .i64 0) := (blk_cell BK127.out 1).trans rfl; have hcz3_2 : w2.cell? ⟨gb127, 2, none⟩ = some (.int .i64 0) := (blk_cell BK127.out 2).trans rfl; have hcz3_3 : w2.cell? ⟨gb127, 3, none⟩ = some (.int .i64 0) := (blk_cell BK127.out 3).trans rfl; have hcz3_4 : w2.cell? ⟨gb127, 4, none⟩ = some (.int .i64 0) := (blk_cell BK127.out 4).trans rfl; have hcz3_5 : w2.cell? ⟨gb127, 5, none⟩ = some (.int .i64 0) := (blk_cell BK127.out 5).trans rfl; have hcz3_6 : w2.cell? ⟨gb127, 6, none⟩ = some (.slice none 0 0) := (blk_cell BK127.out 6).trans rfl; have hcz3_7 : w2.cell? ⟨gb127, 7, none⟩ = some (.slice none 0 0) := (blk_cell BK127.out 7).trans rfl; have hfz3_0 := blk_frozen BK127.out 0; have hfz3_1 := blk_frozen BK127.out 1; have hfz3_2 := blk_frozen BK127.out 2; have hfz3_3 := blk_frozen BK127.out 3; have hfz3_4 := blk_frozen BK127.out 4; have hfz3_5 := blk_frozen BK127.out 5; have hfz3_6 := blk_frozen BK127.out 6; have hfz3_7 := blk_frozen BK127.out 7))
  refine bodyPost_ret (results_cell_row rfl _ _ gb127 36 #[.int .i64 8, .int .i64 0, .int .i64 0, .int .i64 0, .int .i64 0, .int .i64 a0, .slice none 0 0, .slice none 0 0] (0, 0) _ rfl (by (with_reducible repeat (first | refine blk_drewN ?_ _ | refine blk_drew ?_ | refine blk_alloc ?_ _)); refine blk_put (cs := #[.int .i64 8, .int .i64 0, .int .i64 0, .int .i64 0, .int .i64 0, .int .i64 a0, .slice none 0 0, .slice none 0 0]) ?_ 7 _ rfl; (with_reducible repeat (first | refine blk_drewN ?_ _ | refine blk_drew ?_ | refine blk_alloc ?_ _)); refine blk_put (cs := #[.int .i64 8, .int .i64 0, .int .i64 0, .int .i64 0, .int .i64 0, .int .i64 a0, .slice none 0 0, .slice none 0 0]) ?_ 6 _ rfl; (with_reducible repeat (first | refine blk_drewN ?_ _ | refine blk_drew ?_ | refine blk_alloc ?_ _)); refine blk_put (cs := #[.int .i64 8, .int .i64 0, .int .i64 0, .int .i64 0, .int .i64 0, .int .i64 0, .slice none 0 0, .slice none 0 0]) ?_ 5 _ rfl; (with_reducible repeat (first | refine blk_drewN ?_ _ | refine blk_drew ?_ | refine blk_alloc ?_ _)); refine blk_put (cs := #[.int .i64 8, .int .i64 0, .int .i64 0, .int .i64 0, .int .i64 0, .int .i64 0, .slice none 0 0, .slice none 0 0]) ?_ 4 _ rfl; (with_reducible repeat (first | refine blk_drewN ?_ _ | refine blk_drew ?_ | refine blk_alloc ?_ _)); refine blk_put (cs := #[.int .i64 8, .int .i64 0, .int .i64 0, .int .i64 0, .int .i64 0, .int .i64 0, .slice none 0 0, .slice none 0 0]) ?_ 3 _ rfl; (with_reducible repeat (first | refine blk_drewN ?_ _ | refine blk_drew ?_ | refine blk_alloc ?_ _)); refine blk_put (cs := #[.int .i64 8, .int .i64 0, .int .i64 0, .int .i64 0, .int .i64 0, .int .i64 0, .slice none 0 0, .slice none 0 0]) ?_ 2 _ rfl; (with_reducible repeat (first | refine blk_drewN ?_ _ | refine blk_drew ?_ | refine blk_alloc ?_ _)); refine blk_put (cs := #[.int .i64 8, .int .i64 0, .int .i64 0, .int .i64 0, .int .i64 0, .int .i64 0, .slice none 0 0, .slice none 0 0]) ?_ 1 _ rfl; (with_reducible repeat (first | refine blk_drewN ?_ _ | refine blk_drew ?_ | refine blk_alloc ?_ _)); refine blk_put (cs := #[.int .i64 0, .int .i64 0, .int .i64 0, .int .i64 0, .int .i64 0, .int .i64 0, .slice none 0 0, .slice none 0 0]) ?_ 0 _ rfl; (with_reducible repeat (first | refine blk_drewN ?_ _ | refine blk_drew ?_ | refine blk_alloc ?_ _)); exact BK127.out) Try.underlying36 rfl (by kernel_rfl)) rfl ?_
  exact ⟨_, _, by first | rfl | (simp [errW_none, errW_some] <;> rfl) | (simp [*, errW_none, errW_some] <;> rfl), by first | exact Kd.R_nil _ _ _ _ _ | exact Kd.N_nil _ _ _ _ _ | exact Kd.V_nil _ _ _ _ _ | exact Kd.Q_nil _ _ _ _ _ | exact Kd.S_nil _ _ _ _ _, by first | exact Kd.R_nil _ _ _ _ _ | exact Kd.N_nil _ _ _ _ _ | exact Kd.V_nil _ _ _ _ _ | exact Kd.Q_nil _ _ _ _ _ | exact Kd.S_nil _ _ _ _ _, by repeat (first | (with_reducible first | exact HB.out | apply below_alloc | apply pw_below_drewN | apply below_drew1 | refine below_set ?_ GE127.out) | exact HB.out)⟩

end Go.Proofs.Ytcciejcpijlkfaa.H

