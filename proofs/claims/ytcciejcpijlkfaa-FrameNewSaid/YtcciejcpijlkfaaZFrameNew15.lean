/- What the proof of FrameNew stands on, part 15: this session's own texts and the words that the kit's print lays, those that are used. -/
import Derived.Test.YtcciejcpijlkfaaZFrameNew14
import Derived.ChangeKeysEq
import Derived.BigQuiet
-- made by this session's gen.py over the kit's print.py; not trusted: Lean checks it
namespace Go.Proofs.Ytcciejcpijlkfaa.H
open Go.RowKit Go.Proofs.YtcciejcpijlkfaaW.PrintWords Go.Proofs.YtcciejcpijlkfaaW.PrintLast Go.Proofs.YtcciejcpijlkfaaW.PrintMore
attribute [local go_sem] max2_int min2_int max_two min_two max_three min_three max_four min_four   -- for this text's walks alone
set_option linter.unusedVariables false
set_option linter.unusedSimpArgs false

/-! ### haymowlaw12_of: function 12 -/
mutual
def haymowlaw12_of.l0 : Nat → List (S52) → List (S68) → Int → Option ((List (S68)))
  | 0, _, _, _ => none
  | k + 1, x0, x3, x4 => if x4 < (x0.length : Int) then (if 0 ≤ x4 then (haymowlaw12_of.l1 k x0 x3 x4 0 ((rd_T52 x0 x4).f0) ([] : List (S65))) else (none)) else (some x3)
def haymowlaw12_of.l1 : Nat → List (S52) → List (S68) → Int → Int → Int → List (S65) → Option ((List (S68)))
  | 0, _, _, _, _, _, _ => none
  | k + 1, x0, x3, x4, x6, x130000, x130001 => if 0 ≤ x4 then (if x4 < (x0.length : Int) then (if x6 < (((rd_T52 x0 x4).f1).length : Int) then (if 0 ≤ x6 then (if x130001.length < 3518437208883 then (haymowlaw12_of.l1 k x0 x3 x4 (wrap64 (x6 + 1)) x130000 (x130001 ++ [(⟨(rd_T61 ((rd_T52 x0 x4).f1) x6).f0, (rd_T61 ((rd_T52 x0 x4).f1) x6).f1, (rd_T61 ((rd_T52 x0 x4).f1) x6).f2, (rd_T61 ((rd_T52 x0 x4).f1) x6).f3, (rd_T61 ((rd_T52 x0 x4).f1) x6).f4⟩ : S65)])) else (none)) else (none)) else (if x3.length < 4398046511104 then (haymowlaw12_of.l0 k x0 (x3 ++ [(⟨x130000, x130001⟩ : S68)]) (wrap64 (x4 + 1))) else (none))) else (none)) else (none)
end
def haymowlaw12_of.f (k : Nat) (l0 : List (S52)) : Option ((List (S68))) := haymowlaw12_of.l0 k l0 ([] : List (S68)) 0
theorem haymowlaw12_of.mono_l : ∀ k, (∀ y0 y1 y2, LeO (haymowlaw12_of.l0 k y0 y1 y2) (haymowlaw12_of.l0 (k + 1) y0 y1 y2)) ∧ (∀ y0 y1 y2 y3 y4 y5, LeO (haymowlaw12_of.l1 k y0 y1 y2 y3 y4 y5) (haymowlaw12_of.l1 (k + 1) y0 y1 y2 y3 y4 y5))
  | 0 => ⟨fun _ _ _ r h => by simp [haymowlaw12_of.l0] at h, fun _ _ _ _ _ _ r h => by simp [haymowlaw12_of.l1] at h⟩
  | k + 1 => by
    obtain ⟨ih0, ih1⟩ := haymowlaw12_of.mono_l k
    refine ⟨?_, ?_⟩
    · intro y0 y1 y2
      unfold haymowlaw12_of.l0
      repeat' first
      | (with_reducible exact ih0 _ _ _)
      | (with_reducible exact ih1 _ _ _ _ _ _)
      | (with_reducible exact LeO.refl _)
      | (with_reducible exact LeO.none _)
      | (with_reducible refine LeO.ite ?_ ?_)
      | (with_reducible refine LeO.bind ?_ (fun _ => ?_))
      | exact ih0 _ _ _
      | exact ih1 _ _ _ _ _ _
      | exact LeO.none _
      | refine LeO.ite ?_ ?_
      | refine LeO.bind ?_ (fun _ => ?_)
    · intro y0 y1 y2 y3 y4 y5
      unfold haymowlaw12_of.l1
      repeat' first
      | (with_reducible exact ih0 _ _ _)
      | (with_reducible exact ih1 _ _ _ _ _ _)
      | (with_reducible exact LeO.refl _)
      | (with_reducible exact LeO.none _)
      | (with_reducible refine LeO.ite ?_ ?_)
      | (with_reducible refine LeO.bind ?_ (fun _ => ?_))
      | exact ih0 _ _ _
      | exact ih1 _ _ _ _ _ _
      | exact LeO.none _
      | refine LeO.ite ?_ ?_
      | refine LeO.bind ?_ (fun _ => ?_)
theorem haymowlaw12_of.mono : ∀ a0 k, LeO (haymowlaw12_of.f k a0) (haymowlaw12_of.f (k + 1) a0) := by
  intro a0 k
  obtain ⟨ih0, ih1⟩ := haymowlaw12_of.mono_l k
  unfold haymowlaw12_of.f
  repeat' first
      | (with_reducible exact ih0 _ _ _)
      | (with_reducible exact ih1 _ _ _ _ _ _)
      | (with_reducible exact LeO.refl _)
      | (with_reducible exact LeO.none _)
      | (with_reducible refine LeO.ite ?_ ?_)
      | (with_reducible refine LeO.bind ?_ (fun _ => ?_))
      | exact ih0 _ _ _
      | exact ih1 _ _ _ _ _ _
      | exact LeO.none _
      | refine LeO.ite ?_ ?_
      | refine LeO.bind ?_ (fun _ => ?_)
set_option maxHeartbeats 8000000 in
set_option maxRecDepth 100000 in
theorem haymowlaw12_of.calls (k : Nat) (A0 : Option Addr) (c0 : Nat) (l0 : List (S52)) (r : List (S68)) (w : World) (hr0 : Kd.C k52 w A0 l0.length l0) (hc0 : l0.length ≤ c0) (h : haymowlaw12_of.f k l0 = some r) :
    Calls Try.prog 12 #[.slice A0 l0.length c0] w fun e w' => ∃ v0_ : Value, e = .returned (v0_) ∧ Kd.S k68 68 w' w.heap.size (fun _ => True) v0_ r ∧ Below w.heap.size w w' := by
  have hu68 := Try.underlying68
  have hu61 := Try.underlying61
  have hu65 := Try.underlying65
  have HR0 := Aside0.mk hr0
  have HC0 := Aside0.mk hc0
  clear hr0 hc0
  have HB := Aside0.mk (Below.refl w.heap.size w)
  have H : (haymowlaw12_of.l0 k l0 ([] : List (S68)) 0) = some r := h
  clear h
  have H' := Aside0.mk H
  clear H
  go_enter Try.func12, Try.ntmps12
  go_wp2
  go_loopg [3, 4] k (fun kq v3 v4 w' => ∃ (x3_1 : List (S68)) (x4_1 : Int), v4 = .int .i64 x4_1 ∧ Aside0 (haymowlaw12_of.l0 kq l0 x3_1 x4_1 = some r) ∧ Aside0 (kq ≤ k) ∧ Aside0 (Kd.S k68 68 w' w.heap.size (fun _ => True) v3 x3_1) ∧ Aside0 (Below w.heap.size w w'))
  case atStart => exact ⟨(([] : List (S68))), (0), (by first | rfl | (simp; done) | (simp [*]; done)), H', ⟨Nat.le_refl _⟩, ⟨by first | exact Kd.S_nil _ _ _ _ _ | exact Kd.N_nil _ _ _ _ _ | exact Kd.V_nil _ _ _ _ _ | exact Kd.Q_nil _ _ _ _ _ | exact Kd.R_nil _ _ _ _ _⟩, ⟨by repeat (first | (with_reducible first | exact HB.out | apply below_alloc | apply pw_below_drewN | apply below_drew1) | exact HB.out)⟩⟩
  case round =>
    clear H'
    try clear c1
    obtain ⟨x3_1, x4_1, rfl, HA, HK1, HO_3, HB⟩ := hrel
    cases gk with
    | zero => exact absurd HA.out (by simp [haymowlaw12_of.l0])
    | succ k1 =>
      have H := HA.out
      clear HA
      simp only [haymowlaw12_of.l0] at H
      by_cases c2 : x4_1 < (l0.length : Int)
      · rw [if_pos c2] at H
        have c2b0 : decide (x4_1 < (l0.length : Int)) = true := decide_eq_true c2
        clear c2
        by_cases c3 : 0 ≤ x4_1
        · rw [if_pos c3] at H
          have c3b0 : decide (0 ≤ x4_1) = true := decide_eq_true c3
          clear c3
          have H' := Aside0.mk H
          clear H
          have p128 : 0 ≤ (x4_1 : Int) := of_decide_eq_true (by first | (with_reducible assumption) | assumption)
          have q128 : x4_1 < (l0.length : Int) := of_decide_eq_true (by first | (with_reducible assumption) | assumption)
          obtain ⟨ad128, A128_1, c128_1, e128, hx128_0, hx128_1, hl128_1, hi128_1⟩ := at_T52 HR0.out x4_1 p128 q128
          cases e128
          replace hx128_0 := (HB.out.cell (World.block_lt_of_cell? w _ hx128_0)).trans hx128_0
          replace hx128_1 := (HB.out.cell (World.block_lt_of_cell? w _ hx128_1)).trans hx128_1
          have HR128_1 := Aside0.mk hi128_1
          have HC128_1 := Aside0.mk hl128_1
          clear hi128_1 hl128_1
          replace p128 := eq_true p128
          replace q128 := eq_true q128
          go_wp2_with (first | ((with_reducible refine gate_dst (N := 5) rfl ?_); refine box_event ?hg (N := 5) ?hd (cs := #[.int .i64 0, .slice none 0 0]) (t := 68) ?hr ?_; (case hd => rfl); (case hg => rfl); (case hr => first | (go_simp; done) | (go_simp; rfl)); intro gb129 hg w4 hbox hb; have n0_ := Aside0.mk (Kd.S_below (Kd.S_elderB (by (with_reducible repeat (first | apply Kd.S_alloc | apply Kd.S_drewN | apply Kd.S_drew)); exact HO_3.out) gb129 (Nat.le_of_eq hg.symm)) hb); have n1_ := Aside0.mk (below_step (by repeat (first | (with_reducible first | exact HB.out | apply below_alloc | apply pw_below_drewN | apply below_drew1) | exact HB.out)) hb); have n2_ := Aside0.mk (hbox); have n3_ := Aside0.mk ((by rw [hg]; exact (below_size (by repeat (first | (with_reducible first | exact HB.out | apply below_alloc | apply pw_below_drewN | apply below_drew1) | exact HB.out))) : w.heap.size ≤ gb129)); have n4_ := Aside0.mk ((by rw [hg]; exact (below_size (by repeat (first | (with_reducible first | exact HB.out | apply below_alloc | apply pw_below_drewN | apply below_drew1) | exact HB.out))) : w.heap.size ≤ gb129)); clear HO_3; clear HB; have HO_3 := n0_; have HB := n1_; have BK129 := n2_; have GW129 := n3_; have GE129 := n4_; clear n0_ n1_ n2_ n3_ n4_; clear hb hbox hg; have hcz5_0 : w4.cell? ⟨gb129, 0, none⟩ = some (.int .i64 0) := (blk_cell BK129.out 0).trans rfl; have hcz5_1 : w4.cell? ⟨gb129, 1, none⟩ = some (.slice none 0 0) := (blk_cell BK129.out 1).trans rfl; have hfz5_0 := blk_frozen BK129.out 0; have hfz5_1 := blk_frozen BK129.out 1))
          go_loopg [6] k1 (fun kq v6 w' => ∃ (x6_2 : Int) (x130001_2 : List (S65)) (u130001 : Value), v6 = .int .i64 x6_2 ∧ Aside0 (haymowlaw12_of.l1 kq l0 x3_1 x4_1 x6_2 ((rd_T52 l0 x4_1).f0) x130001_2 = some r) ∧ Aside0 (kq ≤ k1) ∧ Aside0 (Kd.S k68 68 w' w.heap.size (fun k_ => some k_ ≠ (u130001 : Value).ownBlock ∧ k_ ≠ gb129) u3 x3_1) ∧ Aside0 (Kd.R k65 65 w' w.heap.size (fun _ => True) u130001 x130001_2) ∧ Aside0 (w'.heap[gb129]? = some (.cells #[.int .i64 ((rd_T52 l0 x4_1).f0), u130001] 68 (0, 0))) ∧ Aside0 (Below w.heap.size w w'))
          case atStart => exact ⟨(0), (([] : List (S65))), (.slice none 0 0), (by first | rfl | (simp; done) | (simp [*]; done)), H', ⟨Nat.le_refl _⟩, ⟨by (with_reducible repeat (first | apply Kd.S_alloc | apply Kd.S_drewN | apply Kd.S_drew)); exact Kd.S_mono (Kd.S_far (p := ⟨gb129, 1, none⟩) (Kd.S_far (p := ⟨gb129, 0, none⟩) (Kd.S_mono HO_3.out (fun k_ hk => (⟨hk, hk.2⟩ : _ ∧ k_ ≠ gb129))) (fun _ hk => hk.2) (.int .i64 ((rd_T52 l0 x4_1).f0))) (fun _ hk => hk.2) (.slice none 0 0)) (fun _ hk => ⟨(by simp [Value.ownBlock]), hk.1.2⟩)⟩, ⟨by first | exact Kd.R_nil _ _ _ _ _ | exact Kd.N_nil _ _ _ _ _ | exact Kd.V_nil _ _ _ _ _ | exact Kd.Q_nil _ _ _ _ _ | exact Kd.S_nil _ _ _ _ _⟩, ⟨by (with_reducible repeat (first | refine blk_drewN ?_ _ | refine blk_drew ?_ | refine blk_alloc ?_ _)); refine blk_put (cs := #[.int .i64 ((rd_T52 l0 x4_1).f0), .slice none 0 0]) ?_ 1 _ rfl; (with_reducible repeat (first | refine blk_drewN ?_ _ | refine blk_drew ?_ | refine blk_alloc ?_ _)); refine blk_put (cs := #[.int .i64 0, .slice none 0 0]) ?_ 0 _ rfl; (with_reducible repeat (first | refine blk_drewN ?_ _ | refine blk_drew ?_ | refine blk_alloc ?_ _)); exact BK129.out⟩, ⟨by repeat (first | (with_reducible first | exact HB.out | apply below_alloc | apply pw_below_drewN | apply below_drew1 | refine below_set ?_ GE129.out) | exact HB.out)⟩⟩
          case round =>
            clear H'
            try clear c1
            try clear p1
            try clear q1
            try clear hx1
            try clear c2
            try clear c2b0
            try clear p2
            try clear c3
            try clear c3b0
            try clear hcz5_0
            try clear hcz5_1
            try clear hfz5_0
            try clear hfz5_1
            try clear hx128_0
            try clear hx128_1
            try clear p128
            try clear q128
            obtain ⟨x6_2, x130001_2, u130001, rfl, HA, HK2, HO_3, HO_130001, BK129, HB⟩ := hrel
            cases gk with
            | zero => exact absurd HA.out (by simp [haymowlaw12_of.l1])
            | succ k2 =>
              have H := HA.out
              clear HA
              simp only [haymowlaw12_of.l1] at H
              by_cases c6 : 0 ≤ x4_1
              · rw [if_pos c6] at H
                have c6b0 : decide (0 ≤ x4_1) = true := decide_eq_true c6
                clear c6
                by_cases c7 : x4_1 < (l0.length : Int)
                · rw [if_pos c7] at H
                  have c7b0 : decide (x4_1 < (l0.length : Int)) = true := decide_eq_true c7
                  clear c7
                  by_cases c8 : x6_2 < (((rd_T52 l0 x4_1).f1).length : Int)
                  · rw [if_pos c8] at H
                    have c8b0 : decide (x6_2 < (((rd_T52 l0 x4_1).f1).length : Int)) = true := decide_eq_true c8
                    clear c8
                    by_cases c9 : 0 ≤ x6_2
                    · rw [if_pos c9] at H
                      have c9b0 : decide (0 ≤ x6_2) = true := decide_eq_true c9
                      clear c9
                      by_cases c10 : x130001_2.length < 3518437208883
                      · rw [if_pos c10] at H
                        have LMc10 := Aside0.mk c10
                        clear c10
                        obtain ⟨y134, hy134⟩ : ∃ y_ : List (S65), y_ = (x130001_2 ++ [(⟨(rd_T61 ((rd_T52 l0 x4_1).f1) x6_2).f0, (rd_T61 ((rd_T52 l0 x4_1).f1) x6_2).f1, (rd_T61 ((rd_T52 l0 x4_1).f1) x6_2).f2, (rd_T61 ((rd_T52 l0 x4_1).f1) x6_2).f3, (rd_T61 ((rd_T52 l0 x4_1).f1) x6_2).f4⟩ : S65)]) := ⟨_, rfl⟩
                        replace H : (haymowlaw12_of.l1 k2 l0 x3_1 x4_1 (wrap64 (x6_2 + 1)) ((rd_T52 l0 x4_1).f0) y134) = some r := by first | (rw [hy134]; with_reducible exact H) | (have H2_ := (Option.bind_some _ _).symm.trans H; rw [hy134]; with_reducible exact H2_) | (have H2_ := (Option.bind_some _ _).symm.trans H; with_reducible exact H2_) | with_reducible exact H | (rw [hy134]; exact H) | exact H
                        have Ny134 := Aside0.mk hy134
                        clear hy134
                        have H' := Aside0.mk H
                        clear H
                        have p130 : 0 ≤ (x4_1 : Int) := of_decide_eq_true (by first | (with_reducible assumption) | assumption)
                        have q130 : x4_1 < (l0.length : Int) := of_decide_eq_true (by first | (with_reducible assumption) | assumption)
                        obtain ⟨ad130, A130_1, c130_1, e130, hx130_0, hx130_1, hl130_1, hi130_1⟩ := at_T52 HR0.out x4_1 p130 q130
                        obtain rfl : ad128 = ad130 := (by injection e130)
                        replace hx130_0 := (HB.out.cell (World.block_lt_of_cell? w _ hx130_0)).trans hx130_0
                        replace hx130_1 := (HB.out.cell (World.block_lt_of_cell? w _ hx130_1)).trans hx130_1
                        have HR130_1 := Aside0.mk hi130_1
                        have HC130_1 := Aside0.mk hl130_1
                        clear hi130_1 hl130_1
                        replace p130 := eq_true p130
                        replace q130 := eq_true q130
                        have p131 : 0 ≤ (x4_1 : Int) := of_decide_eq_true (by first | (with_reducible assumption) | assumption)
                        have q131 : x4_1 < (l0.length : Int) := of_decide_eq_true (by first | (with_reducible assumption) | assumption)
                        obtain ⟨ad131, A131_1, c131_1, e131, hx131_0, hx131_1, hl131_1, hi131_1⟩ := at_T52 HR0.out x4_1 p131 q131
                        obtain rfl : ad128 = ad131 := (by injection e131)
                        replace hx131_0 := (HB.out.cell (World.block_lt_of_cell? w _ hx131_0)).trans hx131_0
                        replace hx131_1 := (HB.out.cell (World.block_lt_of_cell? w _ hx131_1)).trans hx131_1
                        have HR131_1 := Aside0.mk hi131_1
                        have HC131_1 := Aside0.mk hl131_1
                        clear hi131_1 hl131_1
                        replace p131 := eq_true p131
                        replace q131 := eq_true q131
                        have ea_ := Option.some.inj (hx130_1.symm.trans hx131_1)
                        injection ea_ with ea_ en_ ec_
                        subst ea_
                        subst ec_
                        clear en_
                        have p132 : 0 ≤ (x6_2 : Int) := of_decide_eq_true (by first | (with_reducible assumption) | assumption)
                        have q132 : x6_2 < (((rd_T52 l0 x4_1).f1).length : Int) := of_decide_eq_true (by first | (with_reducible assumption) | assumption)
                        obtain ⟨ad132, e132, hx132_0, hx132_1, hx132_2, hx132_3, hx132_4⟩ := at_T61 HR131_1.out x6_2 p132 q132
                        cases e132
                        replace hx132_0 := (HB.out.cell (World.block_lt_of_cell? w _ hx132_0)).trans hx132_0
                        replace hx132_1 := (HB.out.cell (World.block_lt_of_cell? w _ hx132_1)).trans hx132_1
                        replace hx132_2 := (HB.out.cell (World.block_lt_of_cell? w _ hx132_2)).trans hx132_2
                        replace hx132_3 := (HB.out.cell (World.block_lt_of_cell? w _ hx132_3)).trans hx132_3
                        replace hx132_4 := (HB.out.cell (World.block_lt_of_cell? w _ hx132_4)).trans hx132_4
                        replace p132 := eq_true p132
                        replace q132 := eq_true q132
                        go_wp2_with (first | ((with_reducible refine gate_dst (N := 7) rfl ?_); refine box_event ?hg (N := 7) ?hd (cs := #[.int .i64 0, .int .i64 0, .int .i64 0, .int .i64 0, .int .i64 0]) (t := 61) ?hr ?_; (case hd => rfl); (case hg => rfl); (case hr => first | (go_simp; done) | (go_simp; rfl)); intro gb133 hg w11 hbox hb; have n0_ := Aside0.mk (Kd.S_below (by (with_reducible repeat (first | apply Kd.S_alloc | apply Kd.S_drewN | apply Kd.S_drew)); exact HO_3.out) hb); have n1_ := Aside0.mk (Kd.R_below (by (with_reducible repeat (first | apply Kd.R_alloc | apply Kd.R_drewN | apply Kd.R_drew)); exact HO_130001.out) hb); have n2_ := Aside0.mk (blk_below (g := gb129) (o := .cells #[.int .i64 ((rd_T52 l0 x4_1).f0), u130001] 68 (0, 0)) (by (with_reducible repeat (first | refine blk_drewN ?_ _ | refine blk_drew ?_ | refine blk_alloc ?_ _)); exact BK129.out) hb); have n3_ := Aside0.mk (below_step (by repeat (first | (with_reducible first | exact HB.out | apply below_alloc | apply pw_below_drewN | apply below_drew1 | refine below_set ?_ GE129.out) | exact HB.out)) hb); have n4_ := Aside0.mk (hbox); have n5_ := Aside0.mk ((by rw [hg]; exact (below_size (by repeat (first | (with_reducible first | exact HB.out | apply below_alloc | apply pw_below_drewN | apply below_drew1 | refine below_set ?_ GE129.out) | exact HB.out))) : w.heap.size ≤ gb133)); have n6_ := Aside0.mk ((by rw [hg]; exact (below_size (by repeat (first | (with_reducible first | exact HB.out | apply below_alloc | apply pw_below_drewN | apply below_drew1 | refine below_set ?_ GE129.out) | exact HB.out))) : w.heap.size ≤ gb133)); have n7_ := Aside0.mk ((by rw [hg]; exact Nat.ne_of_lt (blk_lt (g := gb129) (o := .cells #[.int .i64 ((rd_T52 l0 x4_1).f0), u130001] 68 (0, 0)) (by (with_reducible repeat (first | refine blk_drewN ?_ _ | refine blk_drew ?_ | refine blk_alloc ?_ _)); exact BK129.out)) : gb129 ≠ gb133)); have n8_ := Aside0.mk ((by rw [hg]; exact Nat.ne_of_gt (blk_lt (g := gb129) (o := .cells #[.int .i64 ((rd_T52 l0 x4_1).f0), u130001] 68 (0, 0)) (by (with_reducible repeat (first | refine blk_drewN ?_ _ | refine blk_drew ?_ | refine blk_alloc ?_ _)); exact BK129.out)) : gb133 ≠ gb129)); clear HO_3; clear HO_130001; clear BK129; clear HB; have HO_3 := n0_; have HO_130001 := n1_; have BK129 := n2_; have HB := n3_; have BK133 := n4_; have GW133 := n5_; have GE133 := n6_; have NB129_133 := n7_; have NB133_129 := n8_; clear n0_ n1_ n2_ n3_ n4_ n5_ n6_ n7_ n8_; clear hb hbox hg; have hnb12 := NB133_129.out; have hnc12 := NB129_133.out; have hcz13_0 : w11.cell? ⟨gb133, 0, none⟩ = some (.int .i64 0) := (blk_cell BK133.out 0).trans rfl; have hcz13_1 : w11.cell? ⟨gb133, 1, none⟩ = some (.int .i64 0) := (blk_cell BK133.out 1).trans rfl; have hcz13_2 : w11.cell? ⟨gb133, 2, none⟩ = some (.int .i64 0) := (blk_cell BK133.out 2).trans rfl; have hcz13_3 : w11.cell? ⟨gb133, 3, none⟩ = some (.int .i64 0) := (blk_cell BK133.out 3).trans rfl; have hcz13_4 : w11.cell? ⟨gb133, 4, none⟩ = some (.int .i64 0) := (blk_cell BK133.out 4).trans rfl; have hfz13_0 := blk_frozen BK133.out 0; have hfz13_1 := blk_frozen BK133.out 1; have hfz13_2 := blk_frozen BK133.out 2; have hfz13_3 := blk_frozen BK133.out 3; have hfz13_4 := blk_frozen BK133.out 4; have hcz14_0 : w11.cell? ⟨gb129, 0, none⟩ = some (.int .i64 ((rd_T52 l0 x4_1).f0)) := (blk_cell BK129.out 0).trans rfl; have hcz14_1 : w11.cell? ⟨gb129, 1, none⟩ = some (u130001) := (blk_cell BK129.out 1).trans rfl; have hfz14_0 := blk_frozen BK129.out 0; have hfz14_1 := blk_frozen BK129.out 1) | ((with_reducible refine gate_builtin (b := .append) (xs := #[.tmp 39, .tmp 51]) rfl ?_); at_builtin; refine Kd.R_append k65 (w0 := w) w.heap.size rfl (.tmp 39) (.tmp 51) 66 65 (.agg #[(.int .i64 0), (.int .i64 0), (.int .i64 0), (.int .i64 0), (.int .i64 0)]) 40 rfl Try.underlying66 info65 rfl (by decide) (by omega) u130001 x130001_2 (⟨(rd_T61 ((rd_T52 l0 x4_1).f1) x6_2).f0, (rd_T61 ((rd_T52 l0 x4_1).f1) x6_2).f1, (rd_T61 ((rd_T52 l0 x4_1).f1) x6_2).f2, (rd_T61 ((rd_T52 l0 x4_1).f1) x6_2).f3, (rd_T61 ((rd_T52 l0 x4_1).f1) x6_2).f4⟩ : S65) [.int .i64 ((rd_T61 ((rd_T52 l0 x4_1).f1) x6_2).f0), .int .i64 ((rd_T61 ((rd_T52 l0 x4_1).f1) x6_2).f1), .int .i64 ((rd_T61 ((rd_T52 l0 x4_1).f1) x6_2).f2), .int .i64 ((rd_T61 ((rd_T52 l0 x4_1).f1) x6_2).f3), .int .i64 ((rd_T61 ((rd_T52 l0 x4_1).f1) x6_2).f4)] (fun _ => True) (fun _ => False) rfl (by first | (go_simp; done) | (go_simp; rfl)) ?aP (fun _ hk => hk.elim) ?aF ?aO ?aB ?aS ?aL ?_; (case aP => exact k65_mkM _ _ _ (⟨(rd_T61 ((rd_T52 l0 x4_1).f1) x6_2).f0, (rd_T61 ((rd_T52 l0 x4_1).f1) x6_2).f1, (rd_T61 ((rd_T52 l0 x4_1).f1) x6_2).f2, (rd_T61 ((rd_T52 l0 x4_1).f1) x6_2).f3, (rd_T61 ((rd_T52 l0 x4_1).f1) x6_2).f4⟩ : S65)); (case aB => exact (by repeat (first | (with_reducible first | exact HB.out | apply below_alloc | apply pw_below_drewN | apply below_drew1 | refine below_set ?_ GE129.out | refine below_set ?_ GE133.out) | exact HB.out))); (case aF => exact (fun _ _ => trivial)); (case aO => exact (by (with_reducible repeat (first | apply Kd.R_alloc | apply Kd.R_drewN | apply Kd.R_drew)); exact Kd.R_mono (Kd.R_far (p := ⟨gb133, 4, none⟩) (Kd.R_far (p := ⟨gb133, 3, none⟩) (Kd.R_far (p := ⟨gb133, 2, none⟩) (Kd.R_far (p := ⟨gb133, 1, none⟩) (Kd.R_far (p := ⟨gb133, 0, none⟩) (Kd.R_types HO_130001.out BK133.out (by decide)) (fun _ hk => hk.2) (.int .i64 ((rd_T61 ((rd_T52 l0 x4_1).f1) x6_2).f0))) (fun _ hk => hk.2) (.int .i64 ((rd_T61 ((rd_T52 l0 x4_1).f1) x6_2).f1))) (fun _ hk => hk.2) (.int .i64 ((rd_T61 ((rd_T52 l0 x4_1).f1) x6_2).f2))) (fun _ hk => hk.2) (.int .i64 ((rd_T61 ((rd_T52 l0 x4_1).f1) x6_2).f3))) (fun _ hk => hk.2) (.int .i64 ((rd_T61 ((rd_T52 l0 x4_1).f1) x6_2).f4))) (fun _ hk => trivial))); (case aS => exact (below_size (by repeat (first | (with_reducible first | exact HB.out | apply below_alloc | apply pw_below_drewN | apply below_drew1 | refine below_set ?_ GE129.out | refine below_set ?_ GE133.out) | exact HB.out)))); (case aL => have := LMc10.out; omega); intro v135 w15 ho hb hg hat; rw [← Ny134.out] at ho; have n0_ := Aside0.mk (Kd.S_after (ok := (fun k_ => k_ ≠ gb129)) (by (with_reducible repeat (first | apply Kd.S_alloc | apply Kd.S_drewN | apply Kd.S_drew)); exact Kd.S_mono (Kd.S_far (p := ⟨gb133, 4, none⟩) (Kd.S_far (p := ⟨gb133, 3, none⟩) (Kd.S_far (p := ⟨gb133, 2, none⟩) (Kd.S_far (p := ⟨gb133, 1, none⟩) (Kd.S_far (p := ⟨gb133, 0, none⟩) (Kd.S_types HO_3.out BK133.out (by decide)) (fun _ hk => hk.2) (.int .i64 ((rd_T61 ((rd_T52 l0 x4_1).f1) x6_2).f0))) (fun _ hk => hk.2) (.int .i64 ((rd_T61 ((rd_T52 l0 x4_1).f1) x6_2).f1))) (fun _ hk => hk.2) (.int .i64 ((rd_T61 ((rd_T52 l0 x4_1).f1) x6_2).f2))) (fun _ hk => hk.2) (.int .i64 ((rd_T61 ((rd_T52 l0 x4_1).f1) x6_2).f3))) (fun _ hk => hk.2) (.int .i64 ((rd_T61 ((rd_T52 l0 x4_1).f1) x6_2).f4))) (fun _ hk => ⟨hk.1.2, hk.1.1⟩)) hg hat); have n1_ := Aside0.mk (blk_grown (g := gb129) (o := .cells #[.int .i64 ((rd_T52 l0 x4_1).f0), u130001] 68 (0, 0)) (by (with_reducible repeat (first | refine blk_drewN ?_ _ | refine blk_drew ?_ | refine blk_alloc ?_ _)); refine blk_far ?_ NB129_133.out _; (with_reducible repeat (first | refine blk_drewN ?_ _ | refine blk_drew ?_ | refine blk_alloc ?_ _)); refine blk_far ?_ NB129_133.out _; (with_reducible repeat (first | refine blk_drewN ?_ _ | refine blk_drew ?_ | refine blk_alloc ?_ _)); refine blk_far ?_ NB129_133.out _; (with_reducible repeat (first | refine blk_drewN ?_ _ | refine blk_drew ?_ | refine blk_alloc ?_ _)); refine blk_far ?_ NB129_133.out _; (with_reducible repeat (first | refine blk_drewN ?_ _ | refine blk_drew ?_ | refine blk_alloc ?_ _)); refine blk_far ?_ NB129_133.out _; (with_reducible repeat (first | refine blk_drewN ?_ _ | refine blk_drew ?_ | refine blk_alloc ?_ _)); exact BK129.out) hg (Kd.R_ne HO_130001.out BK129.out (by decide))); have n2_ := Aside0.mk (blk_grown (g := gb133) (o := .cells #[.int .i64 ((rd_T61 ((rd_T52 l0 x4_1).f1) x6_2).f0), .int .i64 ((rd_T61 ((rd_T52 l0 x4_1).f1) x6_2).f1), .int .i64 ((rd_T61 ((rd_T52 l0 x4_1).f1) x6_2).f2), .int .i64 ((rd_T61 ((rd_T52 l0 x4_1).f1) x6_2).f3), .int .i64 ((rd_T61 ((rd_T52 l0 x4_1).f1) x6_2).f4)] 61 (0, 0)) (by (with_reducible repeat (first | refine blk_drewN ?_ _ | refine blk_drew ?_ | refine blk_alloc ?_ _)); refine blk_put (cs := #[.int .i64 ((rd_T61 ((rd_T52 l0 x4_1).f1) x6_2).f0), .int .i64 ((rd_T61 ((rd_T52 l0 x4_1).f1) x6_2).f1), .int .i64 ((rd_T61 ((rd_T52 l0 x4_1).f1) x6_2).f2), .int .i64 ((rd_T61 ((rd_T52 l0 x4_1).f1) x6_2).f3), .int .i64 0]) ?_ 4 _ rfl; (with_reducible repeat (first | refine blk_drewN ?_ _ | refine blk_drew ?_ | refine blk_alloc ?_ _)); refine blk_put (cs := #[.int .i64 ((rd_T61 ((rd_T52 l0 x4_1).f1) x6_2).f0), .int .i64 ((rd_T61 ((rd_T52 l0 x4_1).f1) x6_2).f1), .int .i64 ((rd_T61 ((rd_T52 l0 x4_1).f1) x6_2).f2), .int .i64 0, .int .i64 0]) ?_ 3 _ rfl; (with_reducible repeat (first | refine blk_drewN ?_ _ | refine blk_drew ?_ | refine blk_alloc ?_ _)); refine blk_put (cs := #[.int .i64 ((rd_T61 ((rd_T52 l0 x4_1).f1) x6_2).f0), .int .i64 ((rd_T61 ((rd_T52 l0 x4_1).f1) x6_2).f1), .int .i64 0, .int .i64 0, .int .i64 0]) ?_ 2 _ rfl; (with_reducible repeat (first | refine blk_drewN ?_ _ | refine blk_drew ?_ | refine blk_alloc ?_ _)); refine blk_put (cs := #[.int .i64 ((rd_T61 ((rd_T52 l0 x4_1).f1) x6_2).f0), .int .i64 0, .int .i64 0, .int .i64 0, .int .i64 0]) ?_ 1 _ rfl; (with_reducible repeat (first | refine blk_drewN ?_ _ | refine blk_drew ?_ | refine blk_alloc ?_ _)); refine blk_put (cs := #[.int .i64 0, .int .i64 0, .int .i64 0, .int .i64 0, .int .i64 0]) ?_ 0 _ rfl; (with_reducible repeat (first | refine blk_drewN ?_ _ | refine blk_drew ?_ | refine blk_alloc ?_ _)); exact BK133.out) hg (Kd.R_ne HO_130001.out BK133.out (by decide))); have n3_ := Aside0.mk (hb); have n4_ := Aside0.mk (ho); clear HO_3; clear BK129; clear BK133; clear HB; clear HO_130001; have HO_3 := n0_; have BK129 := n1_; have BK133 := n2_; have HB := n3_; have HO136 := n4_; clear n0_ n1_ n2_ n3_ n4_; clear ho hb hg hat; obtain ⟨Ao16, co16, eo16⟩ := Kd.R_slice HO136.out; subst eo16; have hcz17_0 : w15.cell? ⟨gb129, 0, none⟩ = some (.int .i64 ((rd_T52 l0 x4_1).f0)) := (blk_cell BK129.out 0).trans rfl; have hcz17_1 : w15.cell? ⟨gb129, 1, none⟩ = some (u130001) := (blk_cell BK129.out 1).trans rfl; have hfz17_0 := blk_frozen BK129.out 0; have hfz17_1 := blk_frozen BK129.out 1))
                        go_roundg k2
                        case measure => have := HK1.out; have := HK2.out; omega
                        case rel => exact ⟨(wrap64 (x6_2 + 1)), (y134), (.slice Ao16 y134.length co16), (by first | rfl | (simp; done) | (simp [*]; done)), H', ⟨by have := HK1.out; have := HK2.out; omega⟩, ⟨by (with_reducible repeat (first | apply Kd.S_alloc | apply Kd.S_drewN | apply Kd.S_drew)); exact Kd.S_mono (Kd.S_far (p := ⟨gb129, 1, none⟩) (Kd.S_mono HO_3.out (fun k_ hk => (⟨hk, hk.1⟩ : _ ∧ k_ ≠ gb129))) (fun _ hk => hk.2) (.slice Ao16 y134.length co16)) (fun _ hk => ⟨hk.1.2, hk.1.1⟩)⟩, ⟨by (with_reducible repeat (first | apply Kd.R_alloc | apply Kd.R_drewN | apply Kd.R_drew)); exact Kd.R_mono (Kd.R_far (p := ⟨gb129, 1, none⟩) (Kd.R_types HO136.out BK129.out (by decide)) (fun _ hk => hk.2) (.slice Ao16 y134.length co16)) (fun _ hk => trivial)⟩, ⟨by (with_reducible repeat (first | refine blk_drewN ?_ _ | refine blk_drew ?_ | refine blk_alloc ?_ _)); refine blk_put (cs := #[.int .i64 ((rd_T52 l0 x4_1).f0), u130001]) ?_ 1 _ rfl; (with_reducible repeat (first | refine blk_drewN ?_ _ | refine blk_drew ?_ | refine blk_alloc ?_ _)); exact BK129.out⟩, ⟨by repeat (first | (with_reducible first | exact HB.out | apply below_alloc | apply pw_below_drewN | apply below_drew1 | refine below_set ?_ GE129.out | refine below_set ?_ GE133.out) | exact HB.out)⟩⟩
                      · rw [if_neg c10] at H
                        exact absurd H (by simp)
                    · rw [if_neg c9] at H
                      exact absurd H (by simp)
                  · rw [if_neg c8] at H
                    have c8b0 : decide (x6_2 < (((rd_T52 l0 x4_1).f1).length : Int)) = false := decide_eq_false c8
                    clear c8
                    by_cases c18 : x3_1.length < 4398046511104
                    · rw [if_pos c18] at H
                      have LMc18 := Aside0.mk c18
                      clear c18
                      obtain ⟨y137, hy137⟩ : ∃ y_ : List (S68), y_ = (x3_1 ++ [(⟨((rd_T52 l0 x4_1).f0), x130001_2⟩ : S68)]) := ⟨_, rfl⟩
                      replace H : (haymowlaw12_of.l0 k2 l0 y137 (wrap64 (x4_1 + 1))) = some r := by first | (rw [hy137]; with_reducible exact H) | (have H2_ := (Option.bind_some _ _).symm.trans H; rw [hy137]; with_reducible exact H2_) | (have H2_ := (Option.bind_some _ _).symm.trans H; with_reducible exact H2_) | with_reducible exact H | (rw [hy137]; exact H) | exact H
                      have Ny137 := Aside0.mk hy137
                      clear hy137
                      have H' := Aside0.mk H
                      clear H
                      have p130 : 0 ≤ (x4_1 : Int) := of_decide_eq_true (by first | (with_reducible assumption) | assumption)
                      have q130 : x4_1 < (l0.length : Int) := of_decide_eq_true (by first | (with_reducible assumption) | assumption)
                      obtain ⟨ad130, A130_1, c130_1, e130, hx130_0, hx130_1, hl130_1, hi130_1⟩ := at_T52 HR0.out x4_1 p130 q130
                      obtain rfl : ad128 = ad130 := (by injection e130)
                      replace hx130_0 := (HB.out.cell (World.block_lt_of_cell? w _ hx130_0)).trans hx130_0
                      replace hx130_1 := (HB.out.cell (World.block_lt_of_cell? w _ hx130_1)).trans hx130_1
                      have HR130_1 := Aside0.mk hi130_1
                      have HC130_1 := Aside0.mk hl130_1
                      clear hi130_1 hl130_1
                      replace p130 := eq_true p130
                      replace q130 := eq_true q130
                      have hcz19_0 : wr.cell? ⟨gb129, 0, none⟩ = some (.int .i64 ((rd_T52 l0 x4_1).f0)) := (blk_cell BK129.out 0).trans rfl
                      have hcz19_1 : wr.cell? ⟨gb129, 1, none⟩ = some (u130001) := (blk_cell BK129.out 1).trans rfl
                      have hfz19_0 := blk_frozen BK129.out 0
                      have hfz19_1 := blk_frozen BK129.out 1
                      obtain ⟨Ao21, co21, eo21⟩ := Kd.R_slice HO_130001.out
                      subst eo21
                      go_wp2_with (first | ((with_reducible refine gate_builtin (b := .append) (xs := #[.tmp 54, .tmp 56]) rfl ?_); at_builtin; refine Kd.S_append k68 (w0 := w) w.heap.size rfl (.tmp 54) (.tmp 56) 40 68 (.agg #[(.int .i64 0), (.slice none 0 0)]) 32 rfl Try.underlying40 info68 rfl (by decide) (by omega) u3 x3_1 (⟨((rd_T52 l0 x4_1).f0), x130001_2⟩ : S68) [.int .i64 ((rd_T52 l0 x4_1).f0), .slice Ao21 x130001_2.length co21] (fun k_ => k_ ≠ gb129) (fun k_ => some k_ = (.slice Ao21 x130001_2.length co21 : Value).ownBlock) rfl rfl ?aP (fun k_ hk_ => ((Kd.R_mono (ok' := fun k_ => ((fun k_ => k_ ≠ gb129)) k_ ∧ some k_ ≠ (u3 : Value).ownBlock) (Kd.R_types (Kd.R_apart' (HO_130001.out) (Kd.S_typed HO_3.out) (by decide)) BK129.out (by decide)) (fun k_ hk => ⟨hk.2, hk.1.2⟩))).1 k_ hk_.symm) ?aF ?aO ?aB ?aS ?aL ?_; (case aP => exact k68_mkM _ _ _ (⟨((rd_T52 l0 x4_1).f0), x130001_2⟩ : S68) (Kd.R_mono (Kd.R_tight rfl (Kd.R_mono (ok' := fun k_ => ((fun k_ => k_ ≠ gb129)) k_ ∧ some k_ ≠ (u3 : Value).ownBlock) (Kd.R_types (Kd.R_apart' (HO_130001.out) (Kd.S_typed HO_3.out) (by decide)) BK129.out (by decide)) (fun k_ hk => ⟨hk.2, hk.1.2⟩))) (fun _ h_ => h_))); (case aB => exact (by repeat (first | (with_reducible first | exact HB.out | apply below_alloc | apply pw_below_drewN | apply below_drew1 | refine below_set ?_ GE129.out) | exact HB.out))); (case aF => exact (fun k_ hk => Kd.freshB (g := gb129) (o := .cells #[.int .i64 ((rd_T52 l0 x4_1).f0), .slice Ao21 x130001_2.length co21] 68 (0, 0)) (by (with_reducible repeat (first | refine blk_drewN ?_ _ | refine blk_drew ?_ | refine blk_alloc ?_ _)); exact BK129.out) k_ hk)); (case aO => exact (by (with_reducible repeat (first | apply Kd.S_alloc | apply Kd.S_drewN | apply Kd.S_drew)); exact Kd.S_mono HO_3.out (fun k_ hk => ⟨hk.2, fun e_ => hk.1 e_⟩))); (case aS => exact (below_size (by repeat (first | (with_reducible first | exact HB.out | apply below_alloc | apply pw_below_drewN | apply below_drew1 | refine below_set ?_ GE129.out) | exact HB.out)))); (case aL => have := LMc18.out; omega); intro v138 w20 ho hb hg hat; rw [← Ny137.out] at ho; have n0_ := Aside0.mk (blk_grown (g := gb129) (o := .cells #[.int .i64 ((rd_T52 l0 x4_1).f0), .slice Ao21 x130001_2.length co21] 68 (0, 0)) (by (with_reducible repeat (first | refine blk_drewN ?_ _ | refine blk_drew ?_ | refine blk_alloc ?_ _)); exact BK129.out) hg (Kd.S_away HO_3.out (fun _ hk => hk.2))); have n1_ := Aside0.mk (hb); have n2_ := Aside0.mk (ho); clear BK129; clear HB; clear HO_3; clear HO_130001; have BK129 := n0_; have HB := n1_; have HO139 := n2_; clear n0_ n1_ n2_; clear ho hb hg hat))
                      go_roundg k2
                      case measure => have := HK1.out; have := HK2.out; omega
                      case rel => exact ⟨(y137), (wrap64 (x4_1 + 1)), (by first | rfl | (simp; done) | (simp [*]; done)), H', ⟨by have := HK1.out; have := HK2.out; omega⟩, ⟨by (with_reducible repeat (first | apply Kd.S_alloc | apply Kd.S_drewN | apply Kd.S_drew)); exact Kd.S_mono HO139.out (fun _ hk => trivial)⟩, ⟨by repeat (first | (with_reducible first | exact HB.out | apply below_alloc | apply pw_below_drewN | apply below_drew1 | refine below_set ?_ GE129.out) | exact HB.out)⟩⟩
                    · rw [if_neg c18] at H
                      exact absurd H (by simp)
                · rw [if_neg c7] at H
                  exact absurd H (by simp)
              · rw [if_neg c6] at H
                exact absurd H (by simp)
        · rw [if_neg c3] at H
          exact absurd H (by simp)
      · rw [if_neg c2] at H
        have c2b0 : decide (x4_1 < (l0.length : Int)) = false := decide_eq_false c2
        clear c2
        obtain rfl := Option.some.inj H
        go_wp2
        go_ret
        exact ⟨_, by first | rfl | (simp [errW_none, errW_some] <;> rfl) | (simp [*, errW_none, errW_some] <;> rfl), by (with_reducible repeat (first | apply Kd.S_alloc | apply Kd.S_drewN | apply Kd.S_drew)); exact HO_3.out, by repeat (first | (with_reducible first | exact HB.out | apply below_alloc | apply pw_below_drewN | apply below_drew1) | exact HB.out)⟩

end Go.Proofs.Ytcciejcpijlkfaa.H

namespace Go.Proofs.Ytcciejcpijlkfaa.H
open Go.RowKit Go.Proofs.YtcciejcpijlkfaaW.PrintWords Go.Proofs.YtcciejcpijlkfaaW.PrintLast Go.Proofs.YtcciejcpijlkfaaW.PrintMore
set_option linter.unusedVariables false
set_option linter.unusedSimpArgs false

theorem wrap_id {x : Int} (h0 : -9223372036854775808 ≤ x) (h1 : x < 9223372036854775808) : wrap64 x = x := by unfold wrap64; omega
theorem drop_cons {α : Type} {l : List α} {i : Nat} (h : i < l.length) : l.drop i = l[i] :: l.drop (i + 1) := List.drop_eq_getElem_cons h

end Go.Proofs.Ytcciejcpijlkfaa.H

set_option linter.unusedVariables false
set_option linter.unusedSimpArgs false
namespace Go.Proofs.Ytcciejcpijlkfaa.H
open Go.RowKit Go.Hay Go.Proofs.YtcciejcpijlkfaaW.PrintWords Go.Proofs.YtcciejcpijlkfaaW.PrintLast Go.Proofs.YtcciejcpijlkfaaW.PrintMore
def cmpP : List Int → List Int → Int
  | [], [] => 0
  | [], _ :: _ => -1
  | _ :: _, [] => 1
  | a :: x, b :: y => if a < b then -1 else if a > b then 1 else cmpP x y
theorem cmp_loop (x y : List Int) (hx : x.length ≤ 4611686018427387904) : ∀ (n i : Nat), x.length - i = n → i ≤ x.length → i ≤ y.length → Ev (fun k => haymowref05_Compare.l0 k x y i) (cmpP (x.drop i) (y.drop i))
  | 0, i, hn, hi, hiy => by
    obtain rfl : i = x.length := by omega
    rw [List.drop_length]
    refine Ev.step (f := fun k => haymowref05_Compare.j1 k x y (x.length : Int) false) (fun k => ?_) (Ev.step (f := fun _ => some _) (fun k => ?_) (Ev.now _))
    · rw [haymowref05_Compare.l0, if_neg (by omega)]
    · rw [haymowref05_Compare.j1, if_neg (by decide)]
      by_cases h : x.length < y.length
      · rw [if_pos (by omega), List.drop_eq_getElem_cons h]; rfl
      · rw [if_neg (by omega), if_neg (by omega), List.drop_eq_nil_of_le (by omega)]; rfl
  | n + 1, i, hn, hi, hiy => by
    have hlt : i < x.length := by omega
    by_cases hly : i < y.length
    · rw [drop_cons hlt, drop_cons hly]
      have e1 : rd x (i : Int) = x[i] := by simp [rd, hlt]
      have e2 : rd y (i : Int) = y[i] := by simp [rd, hly]
      have hj : ∀ k, haymowref05_Compare.j1 (k + 1) x y (i : Int) true = if x[i] < y[i] then some (-1) else if x[i] > y[i] then some 1 else haymowref05_Compare.l0 k x y ((i + 1 : Nat) : Int) := fun k => by
        rw [haymowref05_Compare.j1, if_pos rfl, if_pos (by omega), if_pos (by omega), if_pos (by omega), e1, e2, wrap_id (x := (i : Int) + 1) (by omega) (by omega)]
        rfl
      refine Ev.step (f := fun k => haymowref05_Compare.j1 k x y (i : Int) true) (fun k => ?_) ?_
      · rw [haymowref05_Compare.l0, if_pos (by omega), decide_eq_true (by omega)]
      unfold cmpP
      by_cases h1 : x[i] < y[i]
      · rw [if_pos h1]
        exact Ev.step (f := fun _ => some (-1)) (fun k => by rw [hj, if_pos h1]) (Ev.now _)
      rw [if_neg h1]
      by_cases h2 : x[i] > y[i]
      · rw [if_pos h2]
        exact Ev.step (f := fun _ => some 1) (fun k => by rw [hj, if_neg h1, if_pos h2]) (Ev.now _)
      rw [if_neg h2]
      exact Ev.step (fun k => by rw [hj, if_neg h1, if_neg h2]) (cmp_loop x y hx n (i + 1) (by omega) (by omega) (by omega))
    · rw [drop_cons hlt, show y.drop i = [] from List.drop_eq_nil_of_le (by omega)]
      refine Ev.step (f := fun k => haymowref05_Compare.j1 k x y (i : Int) false) (fun k => ?_) (Ev.step (f := fun _ => some 1) (fun k => ?_) (Ev.now _))
      · rw [haymowref05_Compare.l0, if_pos (by omega), decide_eq_false (by omega)]
      · rw [haymowref05_Compare.j1, if_neg (by decide), if_neg (by omega), if_pos (by omega)]
theorem cmp_ev (x y : List Int) (hx : x.length ≤ 4611686018427387904) : Ev (fun k => haymowref05_Compare.f k x y) (cmpP x y) := cmp_loop x y hx x.length 0 rfl (Nat.zero_le _) (Nat.zero_le _)
theorem cmp_any (A0 : Option Addr) (c0 : Nat) (l0 : List Int) (A1 : Option Addr) (c1 : Nat) (l1 : List Int) (w : World) (h0 : (Kd.int .i64).C w A0 l0.length l0) (hc0 : l0.length ≤ c0) (h1 : (Kd.int .i64).C w A1 l1.length l1) (hc1 : l1.length ≤ c1) (hx : l0.length ≤ 4611686018427387904) :
    Calls Try.prog 24 #[.slice A0 l0.length c0, .slice A1 l1.length c1] w fun e w' => e = .returned (.int .i64 (cmpP l0 l1)) ∧ Drawn0 w w' := by
  obtain ⟨K, hK⟩ := cmp_ev l0 l1 hx
  exact haymowref05_Compare.calls K A0 c0 l0 A1 c1 l1 _ w h0 hc0 h1 hc1 (hK K (Nat.le_refl _))
theorem cmp_is {r : Int} (A0 : Option Addr) (c0 : Nat) (l0 : List Int) (A1 : Option Addr) (c1 : Nat) (l1 : List Int) (w : World) (hr : cmpP l0 l1 = r) (h0 : (Kd.int .i64).C w A0 l0.length l0) (hc0 : l0.length ≤ c0) (h1 : (Kd.int .i64).C w A1 l1.length l1) (hc1 : l1.length ≤ c1) (hx : l0.length ≤ 4611686018427387904) :
    Calls Try.prog 24 #[.slice A0 l0.length c0, .slice A1 l1.length c1] w fun e w' => e = .returned (.int .i64 r) ∧ Drawn0 w w' := hr ▸ cmp_any A0 c0 l0 A1 c1 l1 w h0 hc0 h1 hc1 hx
theorem cmpP_self (x : List Int) : cmpP x x = 0 := by
  induction x with
  | nil => rfl
  | cons a x ih => unfold cmpP; rw [if_neg (by omega), if_neg (by omega)]; exact ih
end Go.Proofs.Ytcciejcpijlkfaa.H

set_option linter.unusedVariables false
set_option linter.unusedSimpArgs false
namespace Go.Proofs.Ytcciejcpijlkfaa.H
open Go.RowKit Go.Hay Go.Proofs.YtcciejcpijlkfaaW.PrintWords Go.Proofs.YtcciejcpijlkfaaW.PrintLast Go.Proofs.YtcciejcpijlkfaaW.PrintMore
theorem eqItems_same (d : Nat) (e : TypeId) (hu : Try.prog.underlying e = some (.int .i64)) (hp : Try.prog.plainKey e = true) (hc : Try.prog.cellsOf e = 1) (xs : List Int) (w : World) : ∀ (is : List Nat), (∀ i ∈ is, i < xs.length) →
    (Op.eqItems (d + 1) e 1 (xs.map (Value.int .i64)).toArray (xs.map (Value.int .i64)).toArray is).run Try.prog w = .ok true w
  | [], _ => rfl
  | i :: is, h => by
    have hpt : (part e (xs.map (Value.int .i64)).toArray (i * 1)).run Try.prog w = .ok (.int .i64 (xs[i]'(h i (List.mem_cons_self ..)))) w := by
      refine run_part_plain w hp ?_
      have hi := h i (List.mem_cons_self ..)
      simp [hi]
    have he : ∀ x : Int, (Op.equalIn (d + 1) e (.int .i64 x) (.int .i64 x)).run Try.prog w = .ok true w := by
      intro x
      simp only [Op.equalIn, Sem.run_bind, run_underlying hu, Result.andThen_ok]
      simp
    simp only [Op.eqItems, Sem.run_bind, hpt, he, Result.andThen_ok]
    exact eqItems_same d e hu hp hc xs w is (fun j hj => h j (List.mem_cons_of_mem _ hj))
theorem eq_array {t : TypeId} (n : Nat) (ht : Try.prog.underlying t = some (.array n 2)) (xs : List Int) (hl : xs.length = n) (w : World) : (Op.equalIn 10000 t (.agg (xs.map (Value.int .i64)).toArray) (.agg (xs.map (Value.int .i64)).toArray)).run Try.prog w = .ok true w := by
  obtain ⟨i, hi⟩ : ∃ i, Try.prog.info? 2 = some i := by
    cases h : Try.prog.info? 2 with
    | some i => exact ⟨i, rfl⟩
    | none => exact absurd h (by decide +kernel)
  have hc : Try.prog.cellsOf 2 = 1 := by kernel_rfl
  rw [run_equalIn_array w 9999 _ _ ht hi, hc]
  exact eqItems_same 9998 2 Try.underlying2 (by kernel_rfl) hc xs w _ (fun i hi => by rw [hl]; exact List.mem_range.1 hi)
theorem eq_arrayI {t : TypeId} (n : Nat) (ht : Try.prog.underlying t = some (.array n 3)) (xs : List Int) (hl : xs.length = n) (w : World) : (Op.equalIn 10000 t (.agg (xs.map (Value.int .i64)).toArray) (.agg (xs.map (Value.int .i64)).toArray)).run Try.prog w = .ok true w := by
  obtain ⟨i, hi⟩ : ∃ i, Try.prog.info? 3 = some i := by
    cases h : Try.prog.info? 3 with
    | some i => exact ⟨i, rfl⟩
    | none => exact absurd h (by decide +kernel)
  have hc : Try.prog.cellsOf 3 = 1 := by kernel_rfl
  rw [run_equalIn_array w 9999 _ _ ht hi, hc]
  exact eqItems_same 9998 3 Try.underlying3 (by kernel_rfl) hc xs w _ (fun i hi => by rw [hl]; exact List.mem_range.1 hi)
end Go.Proofs.Ytcciejcpijlkfaa.H

set_option linter.unusedVariables false
set_option linter.unusedSimpArgs false
namespace Go.Proofs.Ytcciejcpijlkfaa.H
open Go.RowKit Go.Hay Go.Proofs.YtcciejcpijlkfaaW.PrintWords Go.Proofs.YtcciejcpijlkfaaW.PrintLast Go.Proofs.YtcciejcpijlkfaaW.PrintMore
set_option maxRecDepth 100000 in
set_option maxHeartbeats 8000000 in
theorem alike_any (fn at_ st ki : Int) (path : List Int) (r0 r1 r2 r3 r4 r5 r6 r7 h0 h1 h2 h3 : Int) (fb : Nat) (Ap : Option Addr) (cp : Nat) (A2 : Option Addr) (c2 : Nat) (w : World)
    (hL : LF fb ⟨fn, at_, st, ki, path, [r0, r1, r2, r3, r4, r5, r6, r7], [h0, h1, h2, h3]⟩ Ap cp w) (hC : (Kd.int .i64).C w A2 path.length path) (hc : path.length ≤ c2) (hpl : path.length ≤ 1000) :
    Calls Try.prog 15 #[.pointer (some ⟨fb, 0, none⟩), .agg #[.int .i64 fn, .int .i64 at_, .int .i64 st, .int .i64 ki, .slice A2 path.length c2, .int .i64 r0, .int .i64 r1, .int .i64 r2, .int .i64 r3, .int .i64 r4, .int .i64 r5, .int .i64 r6, .int .i64 r7, .int .i64 h0, .int .i64 h1, .int .i64 h2, .int .i64 h3]] w fun e w' => e = .returned (.bool true) ∧ Below w.heap.size w w' := by
  obtain ⟨W, hW⟩ : ∃ W, W = w.alloc (.cells #[.int .i64 fn, .int .i64 at_, .int .i64 st, .int .i64 ki, .slice A2 path.length c2, .int .i64 r0, .int .i64 r1, .int .i64 r2, .int .i64 r3, .int .i64 r4, .int .i64 r5, .int .i64 r6, .int .i64 r7, .int .i64 h0, .int .i64 h1, .int .i64 h2, .int .i64 h3] 27) := ⟨_, rfl⟩
  have hb : Below w.heap.size w W := by rw [hW]; exact (Below.refl w.heap.size w).alloc (Nat.le_refl _) _
  have hx : W.heap[w.heap.size]? = some (.cells #[.int .i64 fn, .int .i64 at_, .int .i64 st, .int .i64 ki, .slice A2 path.length c2, .int .i64 r0, .int .i64 r1, .int .i64 r2, .int .i64 r3, .int .i64 r4, .int .i64 r5, .int .i64 r6, .int .i64 r7, .int .i64 h0, .int .i64 h1, .int .i64 h2, .int .i64 h3] 27 (0, 0)) := by rw [hW]; exact alloc_blk w _
  have hL2 := hL.below hb
  have hn : W.heap[fb]? = some (.cells #[.int .i64 fn, .int .i64 at_, .int .i64 st, .int .i64 ki, .slice Ap path.length cp, .int .i64 r0, .int .i64 r1, .int .i64 r2, .int .i64 r3, .int .i64 r4, .int .i64 r5, .int .i64 r6, .int .i64 r7, .int .i64 h0, .int .i64 h1, .int .i64 h2, .int .i64 h3] 62 (0, 0)) := hL2.fr.node
  have HB := Aside0.mk hb
  have HW := Aside0.mk hW
  have HP := Aside0.mk (And.intro hL2.pC (And.intro hL2.pc (And.intro (Kd.C_below hC hb) (And.intro hc (show path.length ≤ 4611686018427387904 by omega)))))
  have x0 := blk_cell hx 0
  have x1 := blk_cell hx 1
  have x2 := blk_cell hx 2
  have x3 := blk_cell hx 3
  have x4 := blk_cell hx 4
  have x5 := blk_cell hx 5
  have x6 := blk_cell hx 6
  have x7 := blk_cell hx 7
  have x8 := blk_cell hx 8
  have x9 := blk_cell hx 9
  have x10 := blk_cell hx 10
  have x11 := blk_cell hx 11
  have x12 := blk_cell hx 12
  have x13 := blk_cell hx 13
  have x14 := blk_cell hx 14
  have x15 := blk_cell hx 15
  have x16 := blk_cell hx 16
  have y0 := blk_cell hn 0
  have y1 := blk_cell hn 1
  have y2 := blk_cell hn 2
  have y3 := blk_cell hn 3
  have y4 := blk_cell hn 4
  have y5 := blk_cell hn 5
  have y6 := blk_cell hn 6
  have y7 := blk_cell hn 7
  have y8 := blk_cell hn 8
  have y9 := blk_cell hn 9
  have y10 := blk_cell hn 10
  have y11 := blk_cell hn 11
  have y12 := blk_cell hn 12
  have y13 := blk_cell hn 13
  have y14 := blk_cell hn 14
  have y15 := blk_cell hn 15
  have y16 := blk_cell hn 16
  clear hL hC hc hpl hW hb hx hL2 hn
  have hq8 := eq_array 8 Try.underlying24 [r0, r1, r2, r3, r4, r5, r6, r7] rfl
  have hq4 := eq_arrayI 4 Try.underlying25 [h0, h1, h2, h3] rfl
  simp only [List.map_cons, List.map_nil] at hq8 hq4
  go_enter Try.func15, Try.ntmps15
  go_upto_region 1 with (fail)
  rw [← HW.out]
  go_quiet (first | (go_at_call 24; refine (cmp_is Ap cp path A2 c2 path _ (cmpP_self path) ?_ HP.out.2.1 ?_ HP.out.2.2.2.1 HP.out.2.2.2.2).mono ?_; (repeat (first | exact HP.out.1 | exact HP.out.2.2.1 | (with_reducible refine Kd.C_drewN ?_ _) | (with_reducible refine Kd.C_drew ?_))); rintro e w' ⟨rfl, ⟨nd, rfl⟩⟩; (try first | exact ⟨rfl, _, World.drewN_drewN _ _ _⟩ | exact ⟨rfl, _, Eq.trans (World.drewN_drewN _ _ _) (congrArg (World.drewN _) (Nat.add_assoc _ _ _))⟩)))
  go_wp2_with fail
  go_ret
  exact ⟨rfl, HB.out.trans ((pw_below_drewN (Below.refl W.heap.size W) nq).mono HB.out.size)⟩
end Go.Proofs.Ytcciejcpijlkfaa.H

set_option linter.unusedVariables false
set_option linter.unusedSimpArgs false
namespace Go.Proofs.Ytcciejcpijlkfaa.H
open Go.RowKit Go.Hay Go.Proofs.YtcciejcpijlkfaaW.PrintWords Go.Proofs.YtcciejcpijlkfaaW.PrintLast Go.Proofs.YtcciejcpijlkfaaW.PrintMore
end Go.Proofs.Ytcciejcpijlkfaa.H

set_option linter.unusedVariables false
set_option linter.unusedSimpArgs false
namespace Go.Proofs.Ytcciejcpijlkfaa.H
open Go.RowKit Go.Hay Go.Proofs.YtcciejcpijlkfaaW.PrintWords Go.Proofs.YtcciejcpijlkfaaW.PrintLast Go.Proofs.YtcciejcpijlkfaaW.PrintMore
theorem lt_trueF {i k : Nat} (h : i < k) : ((i : Int) < (k : Nat)) = True := eq_true (by omega)
theorem up_ltF {k i : Nat} (h : i < k) : k - (intOf (.int .i64 ((i : Int) + 1))).toNat < k - (intOf (.int .i64 (i : Int))).toNat := by simp [intOf]; omega
end Go.Proofs.Ytcciejcpijlkfaa.H

set_option linter.unusedVariables false
set_option linter.unusedSimpArgs false
namespace Go.Proofs.Ytcciejcpijlkfaa.H
open Go.RowKit Go.Hay Go.Proofs.YtcciejcpijlkfaaW.PrintWords Go.Proofs.YtcciejcpijlkfaaW.PrintLast Go.Proofs.YtcciejcpijlkfaaW.PrintMore
theorem nums_at {k : IntKind} {e B g n cap : Nat} {ok : Nat → Prop} {W : World} {xs : List Int} (h : (Kd.int k).R e W B ok (.slice (some ⟨g, 0, none⟩) n cap) xs) {i : Nat} (hi : i < xs.length) : W.cell? ⟨g, i, none⟩ = some (.int k xs[i]) ∧ W.frozen? ⟨g, i, none⟩ = false := by
  have hq := Kd.R_reads' h
  obtain ⟨ad, e1, hc⟩ := hq.2.2.2.2 (by omega)
  cases e1
  obtain ⟨cs, h1, h2, h3⟩ := hc i _ (List.getElem?_eq_getElem hi)
  have h2 : cs = [.int k xs[i]] := h2
  subst h2
  have q0 := h3 0 _ rfl
  rw [add_plain] at q0
  obtain ⟨g', cp, hv, _, _, C, hC⟩ := Kd.R_form h (by omega)
  injection hv with hA _ _
  cases hA
  have q1 : W.cell? ⟨g, i * 1, none⟩ = some (.int k xs[i]) := q0
  rw [Nat.mul_one] at q1
  exact ⟨q1, blk_frozen hC _⟩
theorem nums_set {k : IntKind} {e B g n cap : Nat} {ok : Nat → Prop} {W : World} {xs : List Int} (h : (Kd.int k).R e W B ok (.slice (some ⟨g, 0, none⟩) n cap) xs) {i : Nat} (hi : i < xs.length) (x : Int) :
    (Kd.int k).R e (W.setCell ⟨g, i, none⟩ (.int k x)) B ok (.slice (some ⟨g, 0, none⟩) n cap) (xs.set i x) := by
  have hq := nums_at h hi
  have hn := (Kd.R_reads' h).1
  have := (Kd.R_seg h (i : Int) (by omega) (by omega) (c := [.int k xs[i]]) (seg := [.int k x]) (j := 0) rfl (fun j u hj => by
    rw [Int.toNat_natCast]
    match j, hj with
    | 0, hj => cases hj; have e : i * (Kd.int k).sz = i := Nat.mul_one i; rw [e]; exact hq.1) (Nat.le_refl _) (x' := x) (okp := fun _ => False) rfl (fun _ h => h.elim)).1
  rw [Int.toNat_natCast, show i * (Kd.int k).sz = i from Nat.mul_one i] at this
  exact this
end Go.Proofs.Ytcciejcpijlkfaa.H

set_option linter.unusedVariables false
set_option linter.unusedSimpArgs false
namespace Go.Proofs.Ytcciejcpijlkfaa.H
open Go.RowKit Go.Hay Go.Proofs.YtcciejcpijlkfaaW.PrintWords Go.Proofs.YtcciejcpijlkfaaW.PrintLast Go.Proofs.YtcciejcpijlkfaaW.PrintMore
/-- rows whose elements lead nowhere. -/
theorem R_flat {α : Type} {d : Kd α} (hf : ∀ {w w1 : World} {base : Nat} {ok ok' : Nat → Prop} {x : α} {cs : List Value}, d.M w base ok x cs → d.M w1 base ok' x cs) {e base : Nat} {w w1 : World} {ok ok' : Nat → Prop} {v : Value} {xs : List α} (h : d.R e w base ok v xs) (ho : ∀ b, v.ownBlock = some b → ok' b) (hag : ∀ b, v.ownBlock = some b → w1.heap[b]? = w.heap[b]?) : d.R e w1 base ok' v xs := by
  obtain ⟨_, inner, ⟨h1, h2⟩, h3, h4⟩ := h
  refine ⟨ho, inner, ⟨h1, ?_⟩, h3, fun j p hj => hf (h4 j p hj)⟩
  rcases h2 with h2 | ⟨g, cap, cur, rfl, q2, q3, q4⟩
  · exact .inl h2
  · exact .inr ⟨g, cap, cur, rfl, q2, (hag g rfl).trans q3, q4⟩
theorem R_own {α : Type} {d : Kd α} {e base : Nat} {w : World} {ok : Nat → Prop} {v : Value} {xs : List α} (h : d.R e w base ok v xs) : ∀ b, v.ownBlock = some b → ok b ∧ base ≤ b ∧ b < w.heap.size :=
  fun b hb => ⟨h.1 b hb, Kd.R_base h b hb, Kd.R_lt h b hb⟩
/-- a path's row: written once. -/
def PathAt (w : World) (A : Option Addr) (path : List Int) : Prop :=
  (path = [] ∧ A = none) ∨ ∃ q cs, A = some ⟨q, 0, none⟩ ∧ w.heap[q]? = some (.cells cs 3 (0, 0)) ∧ cs.toList.take path.length = path.map (Value.int .i64)
theorem PathAt.nil (w : World) : PathAt w none [] := .inl ⟨rfl, rfl⟩
theorem PathAt.keep {w w1 : World} {A : Option Addr} {path : List Int} {S : Nat → Prop} (h : PathAt w A path) (hk : Keep S w w1) (hS : ∀ q cs, w.heap[q]? = some (.cells cs 3 (0, 0)) → ¬ S q) : PathAt w1 A path := by
  rcases h with h | ⟨q, cs, h1, h2, h3⟩
  · exact .inl h
  · exact .inr ⟨q, cs, h1, hk.blk h2 (hS q cs h2), h3⟩
theorem PathAt.below {w w1 : World} {A : Option Addr} {path : List Int} (h : PathAt w A path) (hb : Below w.heap.size w w1) : PathAt w1 A path :=
  h.keep (Keep.of_below hb (fun _ => False)) (fun _ _ _ => id)
theorem PathAt.C {w : World} {A : Option Addr} {path : List Int} (h : PathAt w A path) (hl : path.length ≤ 1000) : (Kd.int .i64).C w A path.length path := by
  rcases h with ⟨rfl, rfl⟩ | ⟨q, cs, rfl, h2, h3⟩
  · exact Kd.C_nil _ _
  · refine ⟨rfl, by omega, fun _ => ⟨_, rfl, fun j p hj => ⟨[.int .i64 p], rfl, rfl, fun i u hu => ?_⟩⟩⟩
    have hlt := (List.getElem?_eq_some_iff.1 hj).1
    match i, hu with
    | 0, hu =>
      cases hu
      rw [add_plain, blk_cell h2]
      have e : (cs.toList.take path.length)[j]? = some (.int .i64 p) := by rw [h3, List.getElem?_map, hj]; rfl
      rw [List.getElem?_take_of_lt hlt] at e
      have e2 : j * (Kd.int .i64).sz + 0 = j := Nat.mul_one j
      rw [e2]
      simpa using e
/-- an entry of the log. -/
structure Ent where
  A : Option Addr
  n : Nat
  c : Nat
  s : Int
def EntsOk (w : World) (ents : List Ent) (log : List (List Int × Int)) : Prop :=
  ents.length = log.length ∧ ∀ j (h : j < ents.length) (h' : j < log.length), ents[j].s = log[j].2 ∧ ents[j].n = log[j].1.length ∧ ents[j].n ≤ ents[j].c ∧ log[j].1.length ≤ 1000 ∧ PathAt w ents[j].A log[j].1
theorem EntsOk.keep {w w1 : World} {ents : List Ent} {log : List (List Int × Int)} {S : Nat → Prop} (h : EntsOk w ents log) (hk : Keep S w w1) (hS : ∀ q cs, w.heap[q]? = some (.cells cs 3 (0, 0)) → ¬ S q) : EntsOk w1 ents log :=
  ⟨h.1, fun j h1 h2 => by obtain ⟨a, b, c, d, e⟩ := h.2 j h1 h2; exact ⟨a, b, c, d, e.keep hk hS⟩⟩
end Go.Proofs.Ytcciejcpijlkfaa.H

set_option linter.unusedVariables false
set_option linter.unusedSimpArgs false
namespace Go.Proofs.Ytcciejcpijlkfaa.H
open Go.RowKit Go.Hay Go.Proofs.YtcciejcpijlkfaaW.PrintWords Go.Proofs.YtcciejcpijlkfaaW.PrintLast Go.Proofs.YtcciejcpijlkfaaW.PrintMore
/-- the registers, so many arguments are there. -/
def regsN (args : List Int) (i : Nat) : List Int := args.take i ++ List.replicate (8 - i) 0
theorem regsN_next (args : List Int) {i : Nat} {x : Int} (h : args[i]? = some x) (h8 : i < 8) : (regsN args i).set i x = regsN args (i + 1) := by
  have hl := (List.getElem?_eq_some_iff.1 h).1
  unfold regsN
  have e : 8 - i = (8 - (i + 1)) + 1 := by omega
  have h2 : args.take (i + 1) = args.take i ++ [x] := by rw [List.take_add_one, h]; rfl
  rw [List.set_append, List.length_take, if_neg (by omega), show i - min i args.length = 0 by omega, e, List.replicate_succ, List.set_cons_zero, h2, List.append_assoc]
  rfl
theorem regsN_all (args : List Int) {i : Nat} (h : i = min args.length 8) : regsN args i = newRegs args := by
  unfold regsN newRegs
  subst h
  by_cases hl : args.length ≤ 8
  · rw [Nat.min_eq_left hl, List.take_of_length_le (Nat.le_refl _), List.take_of_length_le hl]
  · rw [Nat.min_eq_right (by omega), show 8 - args.length = 0 by omega]
/-- a document's frame in a box. -/
structure RB (nb : Nat) (F : Fr) (vp : Value) (w : World) : Prop where
  node : w.heap[nb]? = some (.cells (frcells F vp).toArray 27 (0, 0))
  rl : F.regs.length = 8
  hl : F.hands.length = 4
theorem RB.reg {nb : Nat} {F : Fr} {vp : Value} {w : World} (h : RB nb F vp w) (i : Nat) (hi : i < 8) : w.cell? ⟨nb, 5 + i, none⟩ = some (.int .i64 (F.regs.getD i 0)) := by
  obtain ⟨r0, r1, r2, r3, r4, r5, r6, r7, hr⟩ := eightF h.rl
  obtain ⟨h0, h1, h2, h3, hh⟩ := fourF h.hl
  have hn := h.node
  unfold frcells at hn
  rw [hr, hh] at hn
  rw [hr]
  have : i = 0 ∨ i = 1 ∨ i = 2 ∨ i = 3 ∨ i = 4 ∨ i = 5 ∨ i = 6 ∨ i = 7 := by omega
  rcases this with rfl | rfl | rfl | rfl | rfl | rfl | rfl | rfl <;> exact blk_cell hn _
theorem RB.setReg {nb : Nat} {F : Fr} {vp : Value} {w : World} (h : RB nb F vp w) (i : Nat) (hi : i < 8) (x : Int) : RB nb { F with regs := F.regs.set i x } vp (w.setCell ⟨nb, 5 + i, none⟩ (.int .i64 x)) := by
  obtain ⟨r0, r1, r2, r3, r4, r5, r6, r7, hr⟩ := eightF h.rl
  obtain ⟨h0, h1, h2, h3, hh⟩ := fourF h.hl
  have := blk_set h.node (5 + i) (.int .i64 x)
  refine ⟨?_, by rw [List.length_set]; exact h.rl, h.hl⟩
  rw [this]; unfold frcells; simp only [hr, hh]
  have : i = 0 ∨ i = 1 ∨ i = 2 ∨ i = 3 ∨ i = 4 ∨ i = 5 ∨ i = 6 ∨ i = 7 := by omega
  rcases this with rfl | rfl | rfl | rfl | rfl | rfl | rfl | rfl <;> rfl
theorem LF.keepS {fb : Nat} {F : Fr} {Ap : Option Addr} {cp : Nat} {w w1 : World} {S : Nat → Prop} (h : LF fb F Ap cp w) (hk : Keep S w w1) (hS : ¬ S fb) (hp : F.path = [] ∨ ∃ ad, Ap = some ad ∧ ¬ S ad.block) : LF fb F Ap cp w1 := by
  refine ⟨h.fr.keep hk hS, h.pc, h.pn, h.pne, ?_, h.st⟩
  by_cases hz : F.path = []
  · rw [hz]; exact ⟨rfl, by simp, fun hp => absurd hp (Nat.lt_irrefl 0)⟩
  · rcases hp with e | ⟨ad, e, hS2⟩
    · exact absurd e hz
    · subst e
      refine C_at (fun h => h) h.pC (fun ad' e => ?_)
      cases e
      refine hk.block _ ?_ hS2
      obtain ⟨ad', e, hx⟩ := h.pC.2.2 (List.length_pos_iff.2 hz)
      cases e
      obtain ⟨p, hp⟩ : ∃ p, F.path[0]? = some p := ⟨_, List.getElem?_eq_getElem (List.length_pos_iff.2 hz)⟩
      obtain ⟨cs, h1, h2, h3⟩ := hx 0 p hp
      have h2 : cs = [.int .i64 p] := h2
      subst h2
      have h4 := World.block_lt_of_cell? _ _ (h3 0 _ rfl)
      rwa [add_block] at h4
theorem R_flat' {e base : Nat} {w w1 : World} {v : Value} {xs : List Int} {S : Nat → Prop} (h : (Kd.int .i64).R e w base (fun _ => True) v xs) (hk : Keep S w w1) (hS : ∀ q, v.ownBlock = some q → ¬ S q) : (Kd.int .i64).R e w1 base (fun _ => True) v xs :=
  R_flat (fun h => h) h (fun _ _ => trivial) (fun q hq => hk.block q (nums_own h q hq).2.2 (hS q hq))
theorem infoC3n : (Try.prog.info? 3).map (fun i => (i.zero, i.size, i.bytes)) = some (some (.int .i64 0), 1, 8) := by kernel_rfl
end Go.Proofs.Ytcciejcpijlkfaa.H

