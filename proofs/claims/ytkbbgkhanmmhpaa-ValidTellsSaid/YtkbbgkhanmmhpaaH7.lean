-- made by this session's gen.py over the kit's print.py; not trusted: Lean checks it
import Derived.Test.YtkbbgkhanmmhpaaH0
namespace Go.Proofs.Ytkbbgkhanmmhpaa.H
open Go.RowKit Go.Proofs.YtkbbgkhanmmhpaaW.PrintWords Go.Proofs.YtkbbgkhanmmhpaaW.PrintLast Go.Proofs.YtkbbgkhanmmhpaaW.PrintMore
attribute [local go_sem] max2_int min2_int max_two min_two max_three min_three max_four min_four   -- for this text's walks alone
set_option linter.unusedVariables false
set_option linter.unusedSimpArgs false

/-! ### haymowlaw03_of: function 11 -/
mutual
def haymowlaw03_of.l0 : Nat → List (S50) → List (S36) → Int → Option ((List (S36)))
  | 0, _, _, _ => none
  | k + 1, x0, x3, x4 => if x4 < (x0.length : Int) then (if 0 ≤ x4 then (haymowlaw03_of.l1 k x0 x3 x4 0 ((rd_T50 x0 x4).f0) ([] : List (S33))) else (none)) else (some x3)
def haymowlaw03_of.l1 : Nat → List (S50) → List (S36) → Int → Int → Int → List (S33) → Option ((List (S36)))
  | 0, _, _, _, _, _, _ => none
  | k + 1, x0, x3, x4, x6, x115000, x115001 => if 0 ≤ x4 then (if x4 < (x0.length : Int) then (if x6 < (((rd_T50 x0 x4).f1).length : Int) then (if 0 ≤ x6 then (if x115001.length < 3518437208883 then (haymowlaw03_of.l1 k x0 x3 x4 (wrap64 (x6 + 1)) x115000 (x115001 ++ [(⟨(rd_T58 ((rd_T50 x0 x4).f1) x6).f0, (rd_T58 ((rd_T50 x0 x4).f1) x6).f1, (rd_T58 ((rd_T50 x0 x4).f1) x6).f2, (rd_T58 ((rd_T50 x0 x4).f1) x6).f3, (rd_T58 ((rd_T50 x0 x4).f1) x6).f4⟩ : S33)])) else (none)) else (none)) else (if x3.length < 4398046511104 then (haymowlaw03_of.l0 k x0 (x3 ++ [(⟨x115000, x115001⟩ : S36)]) (wrap64 (x4 + 1))) else (none))) else (none)) else (none)
end
def haymowlaw03_of.f (k : Nat) (l0 : List (S50)) : Option ((List (S36))) := haymowlaw03_of.l0 k l0 ([] : List (S36)) 0
theorem haymowlaw03_of.mono_l : ∀ k, (∀ y0 y1 y2, LeO (haymowlaw03_of.l0 k y0 y1 y2) (haymowlaw03_of.l0 (k + 1) y0 y1 y2)) ∧ (∀ y0 y1 y2 y3 y4 y5, LeO (haymowlaw03_of.l1 k y0 y1 y2 y3 y4 y5) (haymowlaw03_of.l1 (k + 1) y0 y1 y2 y3 y4 y5))
  | 0 => ⟨fun _ _ _ r h => by simp [haymowlaw03_of.l0] at h, fun _ _ _ _ _ _ r h => by simp [haymowlaw03_of.l1] at h⟩
  | k + 1 => by
    obtain ⟨ih0, ih1⟩ := haymowlaw03_of.mono_l k
    refine ⟨?_, ?_⟩
    · intro y0 y1 y2
      unfold haymowlaw03_of.l0
      repeat' first
      | (with_reducible exact ih0 _ _ _)
      | (with_reducible exact ih1 _ _ _ _ _ _)
      | (with_reducible exact LeO.refl _)
      | (with_reducible exact LeO.none _)
      | (with_reducible refine LeO.ite ?_ ?_)
      | (with_reducible refine LeO.bind ?_ (fun _ => ?_))
      | exact ih0 _ _ _
      | exact ih1 _ _ _ _ _ _
      | exact LeO.none _
      | refine LeO.ite ?_ ?_
      | refine LeO.bind ?_ (fun _ => ?_)
    · intro y0 y1 y2 y3 y4 y5
      unfold haymowlaw03_of.l1
      repeat' first
      | (with_reducible exact ih0 _ _ _)
      | (with_reducible exact ih1 _ _ _ _ _ _)
      | (with_reducible exact LeO.refl _)
      | (with_reducible exact LeO.none _)
      | (with_reducible refine LeO.ite ?_ ?_)
      | (with_reducible refine LeO.bind ?_ (fun _ => ?_))
      | exact ih0 _ _ _
      | exact ih1 _ _ _ _ _ _
      | exact LeO.none _
      | refine LeO.ite ?_ ?_
      | refine LeO.bind ?_ (fun _ => ?_)
theorem haymowlaw03_of.mono : ∀ a0 k, LeO (haymowlaw03_of.f k a0) (haymowlaw03_of.f (k + 1) a0) := by
  intro a0 k
  obtain ⟨ih0, ih1⟩ := haymowlaw03_of.mono_l k
  unfold haymowlaw03_of.f
  repeat' first
      | (with_reducible exact ih0 _ _ _)
      | (with_reducible exact ih1 _ _ _ _ _ _)
      | (with_reducible exact LeO.refl _)
      | (with_reducible exact LeO.none _)
      | (with_reducible refine LeO.ite ?_ ?_)
      | (with_reducible refine LeO.bind ?_ (fun _ => ?_))
      | exact ih0 _ _ _
      | exact ih1 _ _ _ _ _ _
      | exact LeO.none _
      | refine LeO.ite ?_ ?_
      | refine LeO.bind ?_ (fun _ => ?_)
set_option maxHeartbeats 8000000 in
set_option maxRecDepth 100000 in
theorem haymowlaw03_of.calls (k : Nat) (A0 : Option Addr) (c0 : Nat) (l0 : List (S50)) (r : List (S36)) (w : World) (hr0 : Kd.C k50 w A0 l0.length l0) (hc0 : l0.length ≤ c0) (h : haymowlaw03_of.f k l0 = some r) :
    Calls Try.prog 11 #[.slice A0 l0.length c0] w fun e w' => ∃ v0_ : Value, e = .returned (v0_) ∧ Kd.S k36 36 w' w.heap.size (fun _ => True) v0_ r ∧ Below w.heap.size w w' := by
  have hu36 := Try.underlying36
  have hu58 := Try.underlying58
  have hu33 := Try.underlying33
  have HR0 := Aside0.mk hr0
  have HC0 := Aside0.mk hc0
  clear hr0 hc0
  have HB := Aside0.mk (Below.refl w.heap.size w)
  have H : (haymowlaw03_of.l0 k l0 ([] : List (S36)) 0) = some r := h
  clear h
  have H' := Aside0.mk H
  clear H
  go_enter Try.func11, Try.ntmps11
  go_wp2
  go_loopg [3, 4] k (fun kq v3 v4 w' => ∃ (x3_1 : List (S36)) (x4_1 : Int), v4 = .int .i64 x4_1 ∧ Aside0 (haymowlaw03_of.l0 kq l0 x3_1 x4_1 = some r) ∧ Aside0 (kq ≤ k) ∧ Aside0 (Kd.S k36 36 w' w.heap.size (fun _ => True) v3 x3_1) ∧ Aside0 (Below w.heap.size w w'))
  case atStart => exact ⟨(([] : List (S36))), (0), (by first | rfl | (simp; done) | (simp [*]; done)), H', ⟨Nat.le_refl _⟩, ⟨by first | exact Kd.S_nil _ _ _ _ _ | exact Kd.N_nil _ _ _ _ _ | exact Kd.V_nil _ _ _ _ _ | exact Kd.Q_nil _ _ _ _ _ | exact Kd.R_nil _ _ _ _ _⟩, ⟨by repeat (first | (with_reducible first | exact HB.out | apply below_alloc | apply pw_below_drewN | apply below_drew1) | exact HB.out)⟩⟩
  case round =>
    clear H'
    try clear c1
    obtain ⟨x3_1, x4_1, rfl, HA, HK1, HO_3, HB⟩ := hrel
    cases gk with
    | zero => exact absurd HA.out (by simp [haymowlaw03_of.l0])
    | succ k1 =>
      have H := HA.out
      clear HA
      simp only [haymowlaw03_of.l0] at H
      by_cases c2 : x4_1 < (l0.length : Int)
      · rw [if_pos c2] at H
        have c2b0 : decide (x4_1 < (l0.length : Int)) = true := decide_eq_true c2
        clear c2
        by_cases c3 : 0 ≤ x4_1
        · rw [if_pos c3] at H
          have c3b0 : decide (0 ≤ x4_1) = true := decide_eq_true c3
          clear c3
          have H' := Aside0.mk H
          clear H
          have p113 : 0 ≤ (x4_1 : Int) := of_decide_eq_true (by first | (with_reducible assumption) | assumption)
          have q113 : x4_1 < (l0.length : Int) := of_decide_eq_true (by first | (with_reducible assumption) | assumption)
          obtain ⟨ad113, A113_1, c113_1, e113, hx113_0, hx113_1, hl113_1, hi113_1⟩ := at_T50 HR0.out x4_1 p113 q113
          cases e113
          replace hx113_0 := (HB.out.cell (World.block_lt_of_cell? w _ hx113_0)).trans hx113_0
          replace hx113_1 := (HB.out.cell (World.block_lt_of_cell? w _ hx113_1)).trans hx113_1
          have HR113_1 := Aside0.mk hi113_1
          have HC113_1 := Aside0.mk hl113_1
          clear hi113_1 hl113_1
          replace p113 := eq_true p113
          replace q113 := eq_true q113
          go_wp2_with (first | ((with_reducible refine gate_dst (N := 5) rfl ?_); refine box_event ?hg (N := 5) ?hd (cs := #[.int .i64 0, .slice none 0 0]) (t := 36) ?hr ?_; (case hd => rfl); (case hg => rfl); (case hr => first | (go_simp; done) | (go_simp; rfl)); intro gb114 hg w4 hbox hb; have n0_ := Aside0.mk (Kd.S_below (Kd.S_elderB (by (with_reducible repeat (first | apply Kd.S_alloc | apply Kd.S_drewN | apply Kd.S_drew)); exact HO_3.out) gb114 (Nat.le_of_eq hg.symm)) hb); have n1_ := Aside0.mk (below_step (by repeat (first | (with_reducible first | exact HB.out | apply below_alloc | apply pw_below_drewN | apply below_drew1) | exact HB.out)) hb); have n2_ := Aside0.mk (hbox); have n3_ := Aside0.mk ((by rw [hg]; exact (below_size (by repeat (first | (with_reducible first | exact HB.out | apply below_alloc | apply pw_below_drewN | apply below_drew1) | exact HB.out))) : w.heap.size ≤ gb114)); have n4_ := Aside0.mk ((by rw [hg]; exact (below_size (by repeat (first | (with_reducible first | exact HB.out | apply below_alloc | apply pw_below_drewN | apply below_drew1) | exact HB.out))) : w.heap.size ≤ gb114)); clear HO_3; clear HB; have HO_3 := n0_; have HB := n1_; have BK114 := n2_; have GW114 := n3_; have GE114 := n4_; clear n0_ n1_ n2_ n3_ n4_; clear hb hbox hg; have hcz5_0 : w4.cell? ⟨gb114, 0, none⟩ = some (.int .i64 0) := (blk_cell BK114.out 0).trans rfl; have hcz5_1 : w4.cell? ⟨gb114, 1, none⟩ = some (.slice none 0 0) := (blk_cell BK114.out 1).trans rfl; have hfz5_0 := blk_frozen BK114.out 0; have hfz5_1 := blk_frozen BK114.out 1))
          go_loopg [6] k1 (fun kq v6 w' => ∃ (x6_2 : Int) (x115001_2 : List (S33)) (u115001 : Value), v6 = .int .i64 x6_2 ∧ Aside0 (haymowlaw03_of.l1 kq l0 x3_1 x4_1 x6_2 ((rd_T50 l0 x4_1).f0) x115001_2 = some r) ∧ Aside0 (kq ≤ k1) ∧ Aside0 (Kd.S k36 36 w' w.heap.size (fun k_ => some k_ ≠ (u115001 : Value).ownBlock ∧ k_ ≠ gb114) u3 x3_1) ∧ Aside0 (Kd.R k33 33 w' w.heap.size (fun _ => True) u115001 x115001_2) ∧ Aside0 (w'.heap[gb114]? = some (.cells #[.int .i64 ((rd_T50 l0 x4_1).f0), u115001] 36 (0, 0))) ∧ Aside0 (Below w.heap.size w w'))
          case atStart => exact ⟨(0), (([] : List (S33))), (.slice none 0 0), (by first | rfl | (simp; done) | (simp [*]; done)), H', ⟨Nat.le_refl _⟩, ⟨by (with_reducible repeat (first | apply Kd.S_alloc | apply Kd.S_drewN | apply Kd.S_drew)); exact Kd.S_mono (Kd.S_far (p := ⟨gb114, 1, none⟩) (Kd.S_far (p := ⟨gb114, 0, none⟩) (Kd.S_mono HO_3.out (fun k_ hk => (⟨hk, hk.2⟩ : _ ∧ k_ ≠ gb114))) (fun _ hk => hk.2) (.int .i64 ((rd_T50 l0 x4_1).f0))) (fun _ hk => hk.2) (.slice none 0 0)) (fun _ hk => ⟨(by simp [Value.ownBlock]), hk.1.2⟩)⟩, ⟨by first | exact Kd.R_nil _ _ _ _ _ | exact Kd.N_nil _ _ _ _ _ | exact Kd.V_nil _ _ _ _ _ | exact Kd.Q_nil _ _ _ _ _ | exact Kd.S_nil _ _ _ _ _⟩, ⟨by (with_reducible repeat (first | refine blk_drewN ?_ _ | refine blk_drew ?_ | refine blk_alloc ?_ _)); refine blk_put (cs := #[.int .i64 ((rd_T50 l0 x4_1).f0), .slice none 0 0]) ?_ 1 _ rfl; (with_reducible repeat (first | refine blk_drewN ?_ _ | refine blk_drew ?_ | refine blk_alloc ?_ _)); refine blk_put (cs := #[.int .i64 0, .slice none 0 0]) ?_ 0 _ rfl; (with_reducible repeat (first | refine blk_drewN ?_ _ | refine blk_drew ?_ | refine blk_alloc ?_ _)); exact BK114.out⟩, ⟨by repeat (first | (with_reducible first | exact HB.out | apply below_alloc | apply pw_below_drewN | apply below_drew1 | refine below_set ?_ GE114.out) | exact HB.out)⟩⟩
          case round =>
            clear H'
            try clear c1
            try clear p1
            try clear q1
            try clear hx1
            try clear c2
            try clear c2b0
            try clear p2
            try clear c3
            try clear c3b0
            try clear hcz5_0
            try clear hcz5_1
            try clear hfz5_0
            try clear hfz5_1
            try clear hx113_0
            try clear hx113_1
            try clear p113
            try clear q113
            obtain ⟨x6_2, x115001_2, u115001, rfl, HA, HK2, HO_3, HO_115001, BK114, HB⟩ := hrel
            cases gk with
            | zero => exact absurd HA.out (by simp [haymowlaw03_of.l1])
            | succ k2 =>
              have H := HA.out
              clear HA
              simp only [haymowlaw03_of.l1] at H
              by_cases c6 : 0 ≤ x4_1
              · rw [if_pos c6] at H
                have c6b0 : decide (0 ≤ x4_1) = true := decide_eq_true c6
                clear c6
                by_cases c7 : x4_1 < (l0.length : Int)
                · rw [if_pos c7] at H
                  have c7b0 : decide (x4_1 < (l0.length : Int)) = true := decide_eq_true c7
                  clear c7
                  by_cases c8 : x6_2 < (((rd_T50 l0 x4_1).f1).length : Int)
                  · rw [if_pos c8] at H
                    have c8b0 : decide (x6_2 < (((rd_T50 l0 x4_1).f1).length : Int)) = true := decide_eq_true c8
                    clear c8
                    by_cases c9 : 0 ≤ x6_2
                    · rw [if_pos c9] at H
                      have c9b0 : decide (0 ≤ x6_2) = true := decide_eq_true c9
                      clear c9
                      by_cases c10 : x115001_2.length < 3518437208883
                      · rw [if_pos c10] at H
                        have LMc10 := Aside0.mk c10
                        clear c10
                        obtain ⟨y119, hy119⟩ : ∃ y_ : List (S33), y_ = (x115001_2 ++ [(⟨(rd_T58 ((rd_T50 l0 x4_1).f1) x6_2).f0, (rd_T58 ((rd_T50 l0 x4_1).f1) x6_2).f1, (rd_T58 ((rd_T50 l0 x4_1).f1) x6_2).f2, (rd_T58 ((rd_T50 l0 x4_1).f1) x6_2).f3, (rd_T58 ((rd_T50 l0 x4_1).f1) x6_2).f4⟩ : S33)]) := ⟨_, rfl⟩
                        replace H : (haymowlaw03_of.l1 k2 l0 x3_1 x4_1 (wrap64 (x6_2 + 1)) ((rd_T50 l0 x4_1).f0) y119) = some r := by first | (rw [hy119]; with_reducible exact H) | (have H2_ := (Option.bind_some _ _).symm.trans H; rw [hy119]; with_reducible exact H2_) | (have H2_ := (Option.bind_some _ _).symm.trans H; with_reducible exact H2_) | with_reducible exact H | (rw [hy119]; exact H) | exact H
                        have Ny119 := Aside0.mk hy119
                        clear hy119
                        have H' := Aside0.mk H
                        clear H
                        have p115 : 0 ≤ (x4_1 : Int) := of_decide_eq_true (by first | (with_reducible assumption) | assumption)
                        have q115 : x4_1 < (l0.length : Int) := of_decide_eq_true (by first | (with_reducible assumption) | assumption)
                        obtain ⟨ad115, A115_1, c115_1, e115, hx115_0, hx115_1, hl115_1, hi115_1⟩ := at_T50 HR0.out x4_1 p115 q115
                        obtain rfl : ad113 = ad115 := (by injection e115)
                        replace hx115_0 := (HB.out.cell (World.block_lt_of_cell? w _ hx115_0)).trans hx115_0
                        replace hx115_1 := (HB.out.cell (World.block_lt_of_cell? w _ hx115_1)).trans hx115_1
                        have HR115_1 := Aside0.mk hi115_1
                        have HC115_1 := Aside0.mk hl115_1
                        clear hi115_1 hl115_1
                        replace p115 := eq_true p115
                        replace q115 := eq_true q115
                        have p116 : 0 ≤ (x4_1 : Int) := of_decide_eq_true (by first | (with_reducible assumption) | assumption)
                        have q116 : x4_1 < (l0.length : Int) := of_decide_eq_true (by first | (with_reducible assumption) | assumption)
                        obtain ⟨ad116, A116_1, c116_1, e116, hx116_0, hx116_1, hl116_1, hi116_1⟩ := at_T50 HR0.out x4_1 p116 q116
                        obtain rfl : ad113 = ad116 := (by injection e116)
                        replace hx116_0 := (HB.out.cell (World.block_lt_of_cell? w _ hx116_0)).trans hx116_0
                        replace hx116_1 := (HB.out.cell (World.block_lt_of_cell? w _ hx116_1)).trans hx116_1
                        have HR116_1 := Aside0.mk hi116_1
                        have HC116_1 := Aside0.mk hl116_1
                        clear hi116_1 hl116_1
                        replace p116 := eq_true p116
                        replace q116 := eq_true q116
                        have ea_ := Option.some.inj (hx115_1.symm.trans hx116_1)
                        injection ea_ with ea_ en_ ec_
                        subst ea_
                        subst ec_
                        clear en_
                        have p117 : 0 ≤ (x6_2 : Int) := of_decide_eq_true (by first | (with_reducible assumption) | assumption)
                        have q117 : x6_2 < (((rd_T50 l0 x4_1).f1).length : Int) := of_decide_eq_true (by first | (with_reducible assumption) | assumption)
                        obtain ⟨ad117, e117, hx117_0, hx117_1, hx117_2, hx117_3, hx117_4⟩ := at_T58 HR116_1.out x6_2 p117 q117
                        cases e117
                        replace hx117_0 := (HB.out.cell (World.block_lt_of_cell? w _ hx117_0)).trans hx117_0
                        replace hx117_1 := (HB.out.cell (World.block_lt_of_cell? w _ hx117_1)).trans hx117_1
                        replace hx117_2 := (HB.out.cell (World.block_lt_of_cell? w _ hx117_2)).trans hx117_2
                        replace hx117_3 := (HB.out.cell (World.block_lt_of_cell? w _ hx117_3)).trans hx117_3
                        replace hx117_4 := (HB.out.cell (World.block_lt_of_cell? w _ hx117_4)).trans hx117_4
                        replace p117 := eq_true p117
                        replace q117 := eq_true q117
                        go_wp2_with (first | ((with_reducible refine gate_dst (N := 7) rfl ?_); refine box_event ?hg (N := 7) ?hd (cs := #[.int .i64 0, .int .i64 0, .int .i64 0, .int .i64 0, .int .i64 0]) (t := 58) ?hr ?_; (case hd => rfl); (case hg => rfl); (case hr => first | (go_simp; done) | (go_simp; rfl)); intro gb118 hg w11 hbox hb; have n0_ := Aside0.mk (Kd.S_below (by (with_reducible repeat (first | apply Kd.S_alloc | apply Kd.S_drewN | apply Kd.S_drew)); exact HO_3.out) hb); have n1_ := Aside0.mk (Kd.R_below (by (with_reducible repeat (first | apply Kd.R_alloc | apply Kd.R_drewN | apply Kd.R_drew)); exact HO_115001.out) hb); have n2_ := Aside0.mk (blk_below (g := gb114) (o := .cells #[.int .i64 ((rd_T50 l0 x4_1).f0), u115001] 36 (0, 0)) (by (with_reducible repeat (first | refine blk_drewN ?_ _ | refine blk_drew ?_ | refine blk_alloc ?_ _)); exact BK114.out) hb); have n3_ := Aside0.mk (below_step (by repeat (first | (with_reducible first | exact HB.out | apply below_alloc | apply pw_below_drewN | apply below_drew1 | refine below_set ?_ GE114.out) | exact HB.out)) hb); have n4_ := Aside0.mk (hbox); have n5_ := Aside0.mk ((by rw [hg]; exact (below_size (by repeat (first | (with_reducible first | exact HB.out | apply below_alloc | apply pw_below_drewN | apply below_drew1 | refine below_set ?_ GE114.out) | exact HB.out))) : w.heap.size ≤ gb118)); have n6_ := Aside0.mk ((by rw [hg]; exact (below_size (by repeat (first | (with_reducible first | exact HB.out | apply below_alloc | apply pw_below_drewN | apply below_drew1 | refine below_set ?_ GE114.out) | exact HB.out))) : w.heap.size ≤ gb118)); have n7_ := Aside0.mk ((by rw [hg]; exact Nat.ne_of_lt (blk_lt (g := gb114) (o := .cells #[.int .i64 ((rd_T50 l0 x4_1).f0), u115001] 36 (0, 0)) (by (with_reducible repeat (first | refine blk_drewN ?_ _ | refine blk_drew ?_ | refine blk_alloc ?_ _)); exact BK114.out)) : gb114 ≠ gb118)); have n8_ := Aside0.mk ((by rw [hg]; exact Nat.ne_of_gt (blk_lt (g := gb114) (o := .cells #[.int .i64 ((rd_T50 l0 x4_1).f0), u115001] 36 (0, 0)) (by (with_reducible repeat (first | refine blk_drewN ?_ _ | refine blk_drew ?_ | refine blk_alloc ?_ _)); exact BK114.out)) : gb118 ≠ gb114)); clear HO_3; clear HO_115001; clear BK114; clear HB; have HO_3 := n0_; have HO_115001 := n1_; have BK114 := n2_; have HB := n3_; have BK118 := n4_; have GW118 := n5_; have GE118 := n6_; have NB114_118 := n7_; have NB118_114 := n8_; clear n0_ n1_ n2_ n3_ n4_ n5_ n6_ n7_ n8_; clear hb hbox hg; have hnb12 := NB118_114.out; have hnc12 := NB114_118.out; have hcz13_0 : w11.cell? ⟨gb118, 0, none⟩ = some (.int .i64 0) := (blk_cell BK118.out 0).trans rfl; have hcz13_1 : w11.cell? ⟨gb118, 1, none⟩ = some (.int .i64 0) := (blk_cell BK118.out 1).trans rfl; have hcz13_2 : w11.cell? ⟨gb118, 2, none⟩ = some (.int .i64 0) := (blk_cell BK118.out 2).trans rfl; have hcz13_3 : w11.cell? ⟨gb118, 3, none⟩ = some (.int .i64 0) := (blk_cell BK118.out 3).trans rfl; have hcz13_4 : w11.cell? ⟨gb118, 4, none⟩ = some (.int .i64 0) := (blk_cell BK118.out 4).trans rfl; have hfz13_0 := blk_frozen BK118.out 0; have hfz13_1 := blk_frozen BK118.out 1; have hfz13_2 := blk_frozen BK118.out 2; have hfz13_3 := blk_frozen BK118.out 3; have hfz13_4 := blk_frozen BK118.out 4; have hcz14_0 : w11.cell? ⟨gb114, 0, none⟩ = some (.int .i64 ((rd_T50 l0 x4_1).f0)) := (blk_cell BK114.out 0).trans rfl; have hcz14_1 : w11.cell? ⟨gb114, 1, none⟩ = some (u115001) := (blk_cell BK114.out 1).trans rfl; have hfz14_0 := blk_frozen BK114.out 0; have hfz14_1 := blk_frozen BK114.out 1) | ((with_reducible refine gate_builtin (b := .append) (xs := #[.tmp 39, .tmp 51]) rfl ?_); at_builtin; refine Kd.R_append k33 (w0 := w) w.heap.size rfl (.tmp 39) (.tmp 51) 34 33 (.agg #[(.int .i64 0), (.int .i64 0), (.int .i64 0), (.int .i64 0), (.int .i64 0)]) 40 rfl Try.underlying34 info33 rfl (by decide) (by omega) u115001 x115001_2 (⟨(rd_T58 ((rd_T50 l0 x4_1).f1) x6_2).f0, (rd_T58 ((rd_T50 l0 x4_1).f1) x6_2).f1, (rd_T58 ((rd_T50 l0 x4_1).f1) x6_2).f2, (rd_T58 ((rd_T50 l0 x4_1).f1) x6_2).f3, (rd_T58 ((rd_T50 l0 x4_1).f1) x6_2).f4⟩ : S33) [.int .i64 ((rd_T58 ((rd_T50 l0 x4_1).f1) x6_2).f0), .int .i64 ((rd_T58 ((rd_T50 l0 x4_1).f1) x6_2).f1), .int .i64 ((rd_T58 ((rd_T50 l0 x4_1).f1) x6_2).f2), .int .i64 ((rd_T58 ((rd_T50 l0 x4_1).f1) x6_2).f3), .int .i64 ((rd_T58 ((rd_T50 l0 x4_1).f1) x6_2).f4)] (fun _ => True) (fun _ => False) rfl (by first | (go_simp; done) | (go_simp; rfl)) ?aP (fun _ hk => hk.elim) ?aF ?aO ?aB ?aS ?aL ?_; (case aP => exact k33_mkM _ _ _ (⟨(rd_T58 ((rd_T50 l0 x4_1).f1) x6_2).f0, (rd_T58 ((rd_T50 l0 x4_1).f1) x6_2).f1, (rd_T58 ((rd_T50 l0 x4_1).f1) x6_2).f2, (rd_T58 ((rd_T50 l0 x4_1).f1) x6_2).f3, (rd_T58 ((rd_T50 l0 x4_1).f1) x6_2).f4⟩ : S33)); (case aB => exact (by repeat (first | (with_reducible first | exact HB.out | apply below_alloc | apply pw_below_drewN | apply below_drew1 | refine below_set ?_ GE114.out | refine below_set ?_ GE118.out) | exact HB.out))); (case aF => exact (fun _ _ => trivial)); (case aO => exact (by (with_reducible repeat (first | apply Kd.R_alloc | apply Kd.R_drewN | apply Kd.R_drew)); exact Kd.R_mono (Kd.R_far (p := ⟨gb118, 4, none⟩) (Kd.R_far (p := ⟨gb118, 3, none⟩) (Kd.R_far (p := ⟨gb118, 2, none⟩) (Kd.R_far (p := ⟨gb118, 1, none⟩) (Kd.R_far (p := ⟨gb118, 0, none⟩) (Kd.R_types HO_115001.out BK118.out (by decide)) (fun _ hk => hk.2) (.int .i64 ((rd_T58 ((rd_T50 l0 x4_1).f1) x6_2).f0))) (fun _ hk => hk.2) (.int .i64 ((rd_T58 ((rd_T50 l0 x4_1).f1) x6_2).f1))) (fun _ hk => hk.2) (.int .i64 ((rd_T58 ((rd_T50 l0 x4_1).f1) x6_2).f2))) (fun _ hk => hk.2) (.int .i64 ((rd_T58 ((rd_T50 l0 x4_1).f1) x6_2).f3))) (fun _ hk => hk.2) (.int .i64 ((rd_T58 ((rd_T50 l0 x4_1).f1) x6_2).f4))) (fun _ hk => trivial))); (case aS => exact (below_size (by repeat (first | (with_reducible first | exact HB.out | apply below_alloc | apply pw_below_drewN | apply below_drew1 | refine below_set ?_ GE114.out | refine below_set ?_ GE118.out) | exact HB.out)))); (case aL => have := LMc10.out; omega); intro v120 w15 ho hb hg hat; rw [← Ny119.out] at ho; have n0_ := Aside0.mk (Kd.S_after (ok := (fun k_ => k_ ≠ gb114)) (by (with_reducible repeat (first | apply Kd.S_alloc | apply Kd.S_drewN | apply Kd.S_drew)); exact Kd.S_mono (Kd.S_far (p := ⟨gb118, 4, none⟩) (Kd.S_far (p := ⟨gb118, 3, none⟩) (Kd.S_far (p := ⟨gb118, 2, none⟩) (Kd.S_far (p := ⟨gb118, 1, none⟩) (Kd.S_far (p := ⟨gb118, 0, none⟩) (Kd.S_types HO_3.out BK118.out (by decide)) (fun _ hk => hk.2) (.int .i64 ((rd_T58 ((rd_T50 l0 x4_1).f1) x6_2).f0))) (fun _ hk => hk.2) (.int .i64 ((rd_T58 ((rd_T50 l0 x4_1).f1) x6_2).f1))) (fun _ hk => hk.2) (.int .i64 ((rd_T58 ((rd_T50 l0 x4_1).f1) x6_2).f2))) (fun _ hk => hk.2) (.int .i64 ((rd_T58 ((rd_T50 l0 x4_1).f1) x6_2).f3))) (fun _ hk => hk.2) (.int .i64 ((rd_T58 ((rd_T50 l0 x4_1).f1) x6_2).f4))) (fun _ hk => ⟨hk.1.2, hk.1.1⟩)) hg hat); have n1_ := Aside0.mk (blk_grown (g := gb114) (o := .cells #[.int .i64 ((rd_T50 l0 x4_1).f0), u115001] 36 (0, 0)) (by (with_reducible repeat (first | refine blk_drewN ?_ _ | refine blk_drew ?_ | refine blk_alloc ?_ _)); refine blk_far ?_ NB114_118.out _; (with_reducible repeat (first | refine blk_drewN ?_ _ | refine blk_drew ?_ | refine blk_alloc ?_ _)); refine blk_far ?_ NB114_118.out _; (with_reducible repeat (first | refine blk_drewN ?_ _ | refine blk_drew ?_ | refine blk_alloc ?_ _)); refine blk_far ?_ NB114_118.out _; (with_reducible repeat (first | refine blk_drewN ?_ _ | refine blk_drew ?_ | refine blk_alloc ?_ _)); refine blk_far ?_ NB114_118.out _; (with_reducible repeat (first | refine blk_drewN ?_ _ | refine blk_drew ?_ | refine blk_alloc ?_ _)); refine blk_far ?_ NB114_118.out _; (with_reducible repeat (first | refine blk_drewN ?_ _ | refine blk_drew ?_ | refine blk_alloc ?_ _)); exact BK114.out) hg (Kd.R_ne HO_115001.out BK114.out (by decide))); have n2_ := Aside0.mk (blk_grown (g := gb118) (o := .cells #[.int .i64 ((rd_T58 ((rd_T50 l0 x4_1).f1) x6_2).f0), .int .i64 ((rd_T58 ((rd_T50 l0 x4_1).f1) x6_2).f1), .int .i64 ((rd_T58 ((rd_T50 l0 x4_1).f1) x6_2).f2), .int .i64 ((rd_T58 ((rd_T50 l0 x4_1).f1) x6_2).f3), .int .i64 ((rd_T58 ((rd_T50 l0 x4_1).f1) x6_2).f4)] 58 (0, 0)) (by (with_reducible repeat (first | refine blk_drewN ?_ _ | refine blk_drew ?_ | refine blk_alloc ?_ _)); refine blk_put (cs := #[.int .i64 ((rd_T58 ((rd_T50 l0 x4_1).f1) x6_2).f0), .int .i64 ((rd_T58 ((rd_T50 l0 x4_1).f1) x6_2).f1), .int .i64 ((rd_T58 ((rd_T50 l0 x4_1).f1) x6_2).f2), .int .i64 ((rd_T58 ((rd_T50 l0 x4_1).f1) x6_2).f3), .int .i64 0]) ?_ 4 _ rfl; (with_reducible repeat (first | refine blk_drewN ?_ _ | refine blk_drew ?_ | refine blk_alloc ?_ _)); refine blk_put (cs := #[.int .i64 ((rd_T58 ((rd_T50 l0 x4_1).f1) x6_2).f0), .int .i64 ((rd_T58 ((rd_T50 l0 x4_1).f1) x6_2).f1), .int .i64 ((rd_T58 ((rd_T50 l0 x4_1).f1) x6_2).f2), .int .i64 0, .int .i64 0]) ?_ 3 _ rfl; (with_reducible repeat (first | refine blk_drewN ?_ _ | refine blk_drew ?_ | refine blk_alloc ?_ _)); refine blk_put (cs := #[.int .i64 ((rd_T58 ((rd_T50 l0 x4_1).f1) x6_2).f0), .int .i64 ((rd_T58 ((rd_T50 l0 x4_1).f1) x6_2).f1), .int .i64 0, .int .i64 0, .int .i64 0]) ?_ 2 _ rfl; (with_reducible repeat (first | refine blk_drewN ?_ _ | refine blk_drew ?_ | refine blk_alloc ?_ _)); refine blk_put (cs := #[.int .i64 ((rd_T58 ((rd_T50 l0 x4_1).f1) x6_2).f0), .int .i64 0, .int .i64 0, .int .i64 0, .int .i64 0]) ?_ 1 _ rfl; (with_reducible repeat (first | refine blk_drewN ?_ _ | refine blk_drew ?_ | refine blk_alloc ?_ _)); refine blk_put (cs := #[.int .i64 0, .int .i64 0, .int .i64 0, .int .i64 0, .int .i64 0]) ?_ 0 _ rfl; (with_reducible repeat (first | refine blk_drewN ?_ _ | refine blk_drew ?_ | refine blk_alloc ?_ _)); exact BK118.out) hg (Kd.R_ne HO_115001.out BK118.out (by decide))); have n3_ := Aside0.mk (hb); have n4_ := Aside0.mk (ho); clear HO_3; clear BK114; clear BK118; clear HB; clear HO_115001; have HO_3 := n0_; have BK114 := n1_; have BK118 := n2_; have HB := n3_; have HO121 := n4_; clear n0_ n1_ n2_ n3_ n4_; clear ho hb hg hat; obtain ⟨Ao16, co16, eo16⟩ := Kd.R_slice HO121.out; subst eo16; have hcz17_0 : w15.cell? ⟨gb114, 0, none⟩ = some (.int .i64 ((rd_T50 l0 x4_1).f0)) := (blk_cell BK114.out 0).trans rfl; have hcz17_1 : w15.cell? ⟨gb114, 1, none⟩ = some (u115001) := (blk_cell BK114.out 1).trans rfl; have hfz17_0 := blk_frozen BK114.out 0; have hfz17_1 := blk_frozen BK114.out 1))
                        go_roundg k2
                        case measure => have := HK1.out; have := HK2.out; omega
                        case rel => exact ⟨(wrap64 (x6_2 + 1)), (y119), (.slice Ao16 y119.length co16), (by first | rfl | (simp; done) | (simp [*]; done)), H', ⟨by have := HK1.out; have := HK2.out; omega⟩, ⟨by (with_reducible repeat (first | apply Kd.S_alloc | apply Kd.S_drewN | apply Kd.S_drew)); exact Kd.S_mono (Kd.S_far (p := ⟨gb114, 1, none⟩) (Kd.S_mono HO_3.out (fun k_ hk => (⟨hk, hk.1⟩ : _ ∧ k_ ≠ gb114))) (fun _ hk => hk.2) (.slice Ao16 y119.length co16)) (fun _ hk => ⟨hk.1.2, hk.1.1⟩)⟩, ⟨by (with_reducible repeat (first | apply Kd.R_alloc | apply Kd.R_drewN | apply Kd.R_drew)); exact Kd.R_mono (Kd.R_far (p := ⟨gb114, 1, none⟩) (Kd.R_types HO121.out BK114.out (by decide)) (fun _ hk => hk.2) (.slice Ao16 y119.length co16)) (fun _ hk => trivial)⟩, ⟨by (with_reducible repeat (first | refine blk_drewN ?_ _ | refine blk_drew ?_ | refine blk_alloc ?_ _)); refine blk_put (cs := #[.int .i64 ((rd_T50 l0 x4_1).f0), u115001]) ?_ 1 _ rfl; (with_reducible repeat (first | refine blk_drewN ?_ _ | refine blk_drew ?_ | refine blk_alloc ?_ _)); exact BK114.out⟩, ⟨by repeat (first | (with_reducible first | exact HB.out | apply below_alloc | apply pw_below_drewN | apply below_drew1 | refine below_set ?_ GE114.out | refine below_set ?_ GE118.out) | exact HB.out)⟩⟩
                      · rw [if_neg c10] at H
                        exact absurd H (by simp)
                    · rw [if_neg c9] at H
                      exact absurd H (by simp)
                  · rw [if_neg c8] at H
                    have c8b0 : decide (x6_2 < (((rd_T50 l0 x4_1).f1).length : Int)) = false := decide_eq_false c8
                    clear c8
                    by_cases c18 : x3_1.length < 4398046511104
                    · rw [if_pos c18] at H
                      have LMc18 := Aside0.mk c18
                      clear c18
                      obtain ⟨y122, hy122⟩ : ∃ y_ : List (S36), y_ = (x3_1 ++ [(⟨((rd_T50 l0 x4_1).f0), x115001_2⟩ : S36)]) := ⟨_, rfl⟩
                      replace H : (haymowlaw03_of.l0 k2 l0 y122 (wrap64 (x4_1 + 1))) = some r := by first | (rw [hy122]; with_reducible exact H) | (have H2_ := (Option.bind_some _ _).symm.trans H; rw [hy122]; with_reducible exact H2_) | (have H2_ := (Option.bind_some _ _).symm.trans H; with_reducible exact H2_) | with_reducible exact H | (rw [hy122]; exact H) | exact H
                      have Ny122 := Aside0.mk hy122
                      clear hy122
                      have H' := Aside0.mk H
                      clear H
                      have p115 : 0 ≤ (x4_1 : Int) := of_decide_eq_true (by first | (with_reducible assumption) | assumption)
                      have q115 : x4_1 < (l0.length : Int) := of_decide_eq_true (by first | (with_reducible assumption) | assumption)
                      obtain ⟨ad115, A115_1, c115_1, e115, hx115_0, hx115_1, hl115_1, hi115_1⟩ := at_T50 HR0.out x4_1 p115 q115
                      obtain rfl : ad113 = ad115 := (by injection e115)
                      replace hx115_0 := (HB.out.cell (World.block_lt_of_cell? w _ hx115_0)).trans hx115_0
                      replace hx115_1 := (HB.out.cell (World.block_lt_of_cell? w _ hx115_1)).trans hx115_1
                      have HR115_1 := Aside0.mk hi115_1
                      have HC115_1 := Aside0.mk hl115_1
                      clear hi115_1 hl115_1
                      replace p115 := eq_true p115
                      replace q115 := eq_true q115
                      have hcz19_0 : wr.cell? ⟨gb114, 0, none⟩ = some (.int .i64 ((rd_T50 l0 x4_1).f0)) := (blk_cell BK114.out 0).trans rfl
                      have hcz19_1 : wr.cell? ⟨gb114, 1, none⟩ = some (u115001) := (blk_cell BK114.out 1).trans rfl
                      have hfz19_0 := blk_frozen BK114.out 0
                      have hfz19_1 := blk_frozen BK114.out 1
                      obtain ⟨Ao21, co21, eo21⟩ := Kd.R_slice HO_115001.out
                      subst eo21
                      go_wp2_with (first | ((with_reducible refine gate_builtin (b := .append) (xs := #[.tmp 54, .tmp 56]) rfl ?_); at_builtin; refine Kd.S_append k36 (w0 := w) w.heap.size rfl (.tmp 54) (.tmp 56) 27 36 (.agg #[(.int .i64 0), (.slice none 0 0)]) 32 rfl Try.underlying27 info36 rfl (by decide) (by omega) u3 x3_1 (⟨((rd_T50 l0 x4_1).f0), x115001_2⟩ : S36) [.int .i64 ((rd_T50 l0 x4_1).f0), .slice Ao21 x115001_2.length co21] (fun k_ => k_ ≠ gb114) (fun k_ => some k_ = (.slice Ao21 x115001_2.length co21 : Value).ownBlock) rfl rfl ?aP (fun k_ hk_ => ((Kd.R_mono (ok' := fun k_ => ((fun k_ => k_ ≠ gb114)) k_ ∧ some k_ ≠ (u3 : Value).ownBlock) (Kd.R_types (Kd.R_apart' (HO_115001.out) (Kd.S_typed HO_3.out) (by decide)) BK114.out (by decide)) (fun k_ hk => ⟨hk.2, hk.1.2⟩))).1 k_ hk_.symm) ?aF ?aO ?aB ?aS ?aL ?_; (case aP => exact k36_mkM _ _ _ (⟨((rd_T50 l0 x4_1).f0), x115001_2⟩ : S36) (Kd.R_mono (Kd.R_tight rfl (Kd.R_mono (ok' := fun k_ => ((fun k_ => k_ ≠ gb114)) k_ ∧ some k_ ≠ (u3 : Value).ownBlock) (Kd.R_types (Kd.R_apart' (HO_115001.out) (Kd.S_typed HO_3.out) (by decide)) BK114.out (by decide)) (fun k_ hk => ⟨hk.2, hk.1.2⟩))) (fun _ h_ => h_))); (case aB => exact (by repeat (first | (with_reducible first | exact HB.out | apply below_alloc | apply pw_below_drewN | apply below_drew1 | refine below_set ?_ GE114.out) | exact HB.out))); (case aF => exact (fun k_ hk => Kd.freshB (g := gb114) (o := .cells #[.int .i64 ((rd_T50 l0 x4_1).f0), .slice Ao21 x115001_2.length co21] 36 (0, 0)) (by (with_reducible repeat (first | refine blk_drewN ?_ _ | refine blk_drew ?_ | refine blk_alloc ?_ _)); exact BK114.out) k_ hk)); (case aO => exact (by (with_reducible repeat (first | apply Kd.S_alloc | apply Kd.S_drewN | apply Kd.S_drew)); exact Kd.S_mono HO_3.out (fun k_ hk => ⟨hk.2, fun e_ => hk.1 e_⟩))); (case aS => exact (below_size (by repeat (first | (with_reducible first | exact HB.out | apply below_alloc | apply pw_below_drewN | apply below_drew1 | refine below_set ?_ GE114.out) | exact HB.out)))); (case aL => have := LMc18.out; omega); intro v123 w20 ho hb hg hat; rw [← Ny122.out] at ho; have n0_ := Aside0.mk (blk_grown (g := gb114) (o := .cells #[.int .i64 ((rd_T50 l0 x4_1).f0), .slice Ao21 x115001_2.length co21] 36 (0, 0)) (by (with_reducible repeat (first | refine blk_drewN ?_ _ | refine blk_drew ?_ | refine blk_alloc ?_ _)); exact BK114.out) hg (Kd.S_away HO_3.out (fun _ hk => hk.2))); have n1_ := Aside0.mk (hb); have n2_ := Aside0.mk (ho); clear BK114; clear HB; clear HO_3; clear HO_115001; have BK114 := n0_; have HB := n1_; have HO124 := n2_; clear n0_ n1_ n2_; clear ho hb hg hat))
                      go_roundg k2
                      case measure => have := HK1.out; have := HK2.out; omega
                      case rel => exact ⟨(y122), (wrap64 (x4_1 + 1)), (by first | rfl | (simp; done) | (simp [*]; done)), H', ⟨by have := HK1.out; have := HK2.out; omega⟩, ⟨by (with_reducible repeat (first | apply Kd.S_alloc | apply Kd.S_drewN | apply Kd.S_drew)); exact Kd.S_mono HO124.out (fun _ hk => trivial)⟩, ⟨by repeat (first | (with_reducible first | exact HB.out | apply below_alloc | apply pw_below_drewN | apply below_drew1 | refine below_set ?_ GE114.out) | exact HB.out)⟩⟩
                    · rw [if_neg c18] at H
                      exact absurd H (by simp)
                · rw [if_neg c7] at H
                  exact absurd H (by simp)
              · rw [if_neg c6] at H
                exact absurd H (by simp)
        · rw [if_neg c3] at H
          exact absurd H (by simp)
      · rw [if_neg c2] at H
        have c2b0 : decide (x4_1 < (l0.length : Int)) = false := decide_eq_false c2
        clear c2
        obtain rfl := Option.some.inj H
        go_wp2
        go_ret
        exact ⟨_, by first | rfl | (simp [errW_none, errW_some] <;> rfl) | (simp [*, errW_none, errW_some] <;> rfl), by (with_reducible repeat (first | apply Kd.S_alloc | apply Kd.S_drewN | apply Kd.S_drew)); exact HO_3.out, by repeat (first | (with_reducible first | exact HB.out | apply below_alloc | apply pw_below_drewN | apply below_drew1) | exact HB.out)⟩

end Go.Proofs.Ytkbbgkhanmmhpaa.H
