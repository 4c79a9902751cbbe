/- What the proof of FrameCounts stands on, part 15: this session's own texts and the words that the kit's print lays, those that are used. -/
import Derived.Test.YtcciejcpijlkfaaZFrameCounts14
import Derived.ChangeKeysEq
import Derived.BigQuiet
-- made by this session's gen.py over the kit's print.py; not trusted: Lean checks it
namespace Go.Proofs.Ytcciejcpijlkfaa.H
open Go.RowKit Go.Proofs.YtcciejcpijlkfaaW.PrintWords Go.Proofs.YtcciejcpijlkfaaW.PrintLast Go.Proofs.YtcciejcpijlkfaaW.PrintMore
attribute [local go_sem] max2_int min2_int max_two min_two max_three min_three max_four min_four   -- for this text's walks alone
set_option linter.unusedVariables false
set_option linter.unusedSimpArgs false

/-! ### haymowlaw12_of: function 12 -/
mutual
def haymowlaw12_of.l0 : Nat → List (S52) → List (S68) → Int → Option ((List (S68)))
  | 0, _, _, _ => none
  | k + 1, x0, x3, x4 => if x4 < (x0.length : Int) then (if 0 ≤ x4 then (haymowlaw12_of.l1 k x0 x3 x4 0 ((rd_T52 x0 x4).f0) ([] : List (S65))) else (none)) else (some x3)
def haymowlaw12_of.l1 : Nat → List (S52) → List (S68) → Int → Int → Int → List (S65) → Option ((List (S68)))
  | 0, _, _, _, _, _, _ => none
  | k + 1, x0, x3, x4, x6, x130000, x130001 => if 0 ≤ x4 then (if x4 < (x0.length : Int) then (if x6 < (((rd_T52 x0 x4).f1).length : Int) then (if 0 ≤ x6 then (if x130001.length < 3518437208883 then (haymowlaw12_of.l1 k x0 x3 x4 (wrap64 (x6 + 1)) x130000 (x130001 ++ [(⟨(rd_T61 ((rd_T52 x0 x4).f1) x6).f0, (rd_T61 ((rd_T52 x0 x4).f1) x6).f1, (rd_T61 ((rd_T52 x0 x4).f1) x6).f2, (rd_T61 ((rd_T52 x0 x4).f1) x6).f3, (rd_T61 ((rd_T52 x0 x4).f1) x6).f4⟩ : S65)])) else (none)) else (none)) else (if x3.length < 4398046511104 then (haymowlaw12_of.l0 k x0 (x3 ++ [(⟨x130000, x130001⟩ : S68)]) (wrap64 (x4 + 1))) else (none))) else (none)) else (none)
end
def haymowlaw12_of.f (k : Nat) (l0 : List (S52)) : Option ((List (S68))) := haymowlaw12_of.l0 k l0 ([] : List (S68)) 0
theorem haymowlaw12_of.mono_l : ∀ k, (∀ y0 y1 y2, LeO (haymowlaw12_of.l0 k y0 y1 y2) (haymowlaw12_of.l0 (k + 1) y0 y1 y2)) ∧ (∀ y0 y1 y2 y3 y4 y5, LeO (haymowlaw12_of.l1 k y0 y1 y2 y3 y4 y5) (haymowlaw12_of.l1 (k + 1) y0 y1 y2 y3 y4 y5))
  | 0 => ⟨fun _ _ _ r h => by simp [haymowlaw12_of.l0] at h, fun _ _ _ _ _ _ r h => by simp [haymowlaw12_of.l1] at h⟩
  | k + 1 => by
    obtain ⟨ih0, ih1⟩ := haymowlaw12_of.mono_l k
    refine ⟨?_, ?_⟩
    · intro y0 y1 y2
      unfold haymowlaw12_of.l0
      repeat' first
      | (with_reducible exact ih0 _ _ _)
      | (with_reducible exact ih1 _ _ _ _ _ _)
      | (with_reducible exact LeO.refl _)
      | (with_reducible exact LeO.none _)
      | (with_reducible refine LeO.ite ?_ ?_)
      | (with_reducible refine LeO.bind ?_ (fun _ => ?_))
      | exact ih0 _ _ _
      | exact ih1 _ _ _ _ _ _
      | exact LeO.none _
      | refine LeO.ite ?_ ?_
      | refine LeO.bind ?_ (fun _ => ?_)
    · intro y0 y1 y2 y3 y4 y5
      unfold haymowlaw12_of.l1
      repeat' first
      | (with_reducible exact ih0 _ _ _)
      | (with_reducible exact ih1 _ _ _ _ _ _)
      | (with_reducible exact LeO.refl _)
      | (with_reducible exact LeO.none _)
      | (with_reducible refine LeO.ite ?_ ?_)
      | (with_reducible refine LeO.bind ?_ (fun _ => ?_))
      | exact ih0 _ _ _
      | exact ih1 _ _ _ _ _ _
      | exact LeO.none _
      | refine LeO.ite ?_ ?_
      | refine LeO.bind ?_ (fun _ => ?_)
theorem haymowlaw12_of.mono : ∀ a0 k, LeO (haymowlaw12_of.f k a0) (haymowlaw12_of.f (k + 1) a0) := by
  intro a0 k
  obtain ⟨ih0, ih1⟩ := haymowlaw12_of.mono_l k
  unfold haymowlaw12_of.f
  repeat' first
      | (with_reducible exact ih0 _ _ _)
      | (with_reducible exact ih1 _ _ _ _ _ _)
      | (with_reducible exact LeO.refl _)
      | (with_reducible exact LeO.none _)
      | (with_reducible refine LeO.ite ?_ ?_)
      | (with_reducible refine LeO.bind ?_ (fun _ => ?_))
      | exact ih0 _ _ _
      | exact ih1 _ _ _ _ _ _
      | exact LeO.none _
      | refine LeO.ite ?_ ?_
      | refine LeO.bind ?_ (fun _ => ?_)
set_option maxHeartbeats 8000000 in
set_option maxRecDepth 100000 in
theorem haymowlaw12_of.calls (k : Nat) (A0 : Option Addr) (c0 : Nat) (l0 : List (S52)) (r : List (S68)) (w : World) (hr0 : Kd.C k52 w A0 l0.length l0) (hc0 : l0.length ≤ c0) (h : haymowlaw12_of.f k l0 = some r) :
    Calls Try.prog 12 #[.slice A0 l0.length c0] w fun e w' => ∃ v0_ : Value, e = .returned (v0_) ∧ Kd.S k68 68 w' w.heap.size (fun _ => True) v0_ r ∧ Below w.heap.size w w' := by
  have hu68 := Try.underlying68
  have hu61 := Try.underlying61
  have hu65 := Try.underlying65
  have HR0 := Aside0.mk hr0
  have HC0 := Aside0.mk hc0
  clear hr0 hc0
  have HB := Aside0.mk (Below.refl w.heap.size w)
  have H : (haymowlaw12_of.l0 k l0 ([] : List (S68)) 0) = some r := h
  clear h
  have H' := Aside0.mk H
  clear H
  go_enter Try.func12, Try.ntmps12
  go_wp2
  go_loopg [3, 4] k (fun kq v3 v4 w' => ∃ (x3_1 : List (S68)) (x4_1 : Int), v4 = .int .i64 x4_1 ∧ Aside0 (haymowlaw12_of.l0 kq l0 x3_1 x4_1 = some r) ∧ Aside0 (kq ≤ k) ∧ Aside0 (Kd.S k68 68 w' w.heap.size (fun _ => True) v3 x3_1) ∧ Aside0 (Below w.heap.size w w'))
  case atStart => exact ⟨(([] : List (S68))), (0), (by first | rfl | (simp; done) | (simp [*]; done)), H', ⟨Nat.le_refl _⟩, ⟨by first | exact Kd.S_nil _ _ _ _ _ | exact Kd.N_nil _ _ _ _ _ | exact Kd.V_nil _ _ _ _ _ | exact Kd.Q_nil _ _ _ _ _ | exact Kd.R_nil _ _ _ _ _⟩, ⟨by repeat (first | (with_reducible first | exact HB.out | apply below_alloc | apply pw_below_drewN | apply below_drew1) | exact HB.out)⟩⟩
  case round =>
    clear H'
    try clear c1
    obtain ⟨x3_1, x4_1, rfl, HA, HK1, HO_3, HB⟩ := hrel
    cases gk with
    | zero => exact absurd HA.out (by simp [haymowlaw12_of.l0])
    | succ k1 =>
      have H := HA.out
      clear HA
      simp only [haymowlaw12_of.l0] at H
      by_cases c2 : x4_1 < (l0.length : Int)
      · rw [if_pos c2] at H
        have c2b0 : decide (x4_1 < (l0.length : Int)) = true := decide_eq_true c2
        clear c2
        by_cases c3 : 0 ≤ x4_1
        · rw [if_pos c3] at H
          have c3b0 : decide (0 ≤ x4_1) = true := decide_eq_true c3
          clear c3
          have H' := Aside0.mk H
          clear H
          have p128 : 0 ≤ (x4_1 : Int) := of_decide_eq_true (by first | (with_reducible assumption) | assumption)
          have q128 : x4_1 < (l0.length : Int) := of_decide_eq_true (by first | (with_reducible assumption) | assumption)
          obtain ⟨ad128, A128_1, c128_1, e128, hx128_0, hx128_1, hl128_1, hi128_1⟩ := at_T52 HR0.out x4_1 p128 q128
          cases e128
          replace hx128_0 := (HB.out.cell (World.block_lt_of_cell? w _ hx128_0)).trans hx128_0
          replace hx128_1 := (HB.out.cell (World.block_lt_of_cell? w _ hx128_1)).trans hx128_1
          have HR128_1 := Aside0.mk hi128_1
          have HC128_1 := Aside0.mk hl128_1
          clear hi128_1 hl128_1
          replace p128 := eq_true p128
          replace q128 := eq_true q128
          go_wp2_with (first | ((with_reducible refine gate_dst (N := 5) rfl ?_); refine box_event ?hg (N := 5) ?hd (cs := #[.int .i64 0, .slice none 0 0]) (t := 68) ?hr ?_; (case hd => rfl); (case hg => rfl); (case hr => first | (go_simp; done) | (go_simp; rfl)); intro gb129 hg w4 hbox hb; have n0_ := Aside0.mk (Kd.S_below (Kd.S_elderB (by (with_reducible repeat (first | apply Kd.S_alloc | apply Kd.S_drewN | apply Kd.S_drew)); exact HO_3.out) gb129 (Nat.le_of_eq hg.symm)) hb); have n1_ := Aside0.mk (below_step (by repeat (first | (with_reducible first | exact HB.out | apply below_alloc | apply pw_below_drewN | apply below_drew1) | exact HB.out)) hb); have n2_ := Aside0.mk (hbox); have n3_ := Aside0.mk ((by rw [hg]; exact (below_size (by repeat (first | (with_reducible first | exact HB.out | apply below_alloc | apply pw_below_drewN | apply below_drew1) | exact HB.out))) : w.heap.size ≤ gb129)); have n4_ := Aside0.mk ((by rw [hg]; exact (below_size (by repeat (first | (with_reducible first | exact HB.out | apply below_alloc | apply pw_below_drewN | apply below_drew1) | exact HB.out))) : w.heap.size ≤ gb129)); clear HO_3; clear HB; have HO_3 := n0_; have HB := n1_; have BK129 := n2_; have GW129 := n3_; have GE129 := n4_; clear n0_ n1_ n2_ n3_ n4_; clear hb hbox hg; have hcz5_0 : w4.cell? ⟨gb129, 0, none⟩ = some (.int .i64 0) := (blk_cell BK129.out 0).trans rfl; have hcz5_1 : w4.cell? ⟨gb129, 1, none⟩ = some (.slice none 0 0) := (blk_cell BK129.out 1).trans rfl; have hfz5_0 := blk_frozen BK129.out 0; have hfz5_1 := blk_frozen BK129.out 1))
          go_loopg [6] k1 (fun kq v6 w' => ∃ (x6_2 : Int) (x130001_2 : List (S65)) (u130001 : Value), v6 = .int .i64 x6_2 ∧ Aside0 (haymowlaw12_of.l1 kq l0 x3_1 x4_1 x6_2 ((rd_T52 l0 x4_1).f0) x130001_2 = some r) ∧ Aside0 (kq ≤ k1) ∧ Aside0 (Kd.S k68 68 w' w.heap.size (fun k_ => some k_ ≠ (u130001 : Value).ownBlock ∧ k_ ≠ gb129) u3 x3_1) ∧ Aside0 (Kd.R k65 65 w' w.heap.size (fun _ => True) u130001 x130001_2) ∧ Aside0 (w'.heap[gb129]? = some (.cells #[.int .i64 ((rd_T52 l0 x4_1).f0), u130001] 68 (0, 0))) ∧ Aside0 (Below w.heap.size w w'))
          case atStart => exact ⟨(0), (([] : List (S65))), (.slice none 0 0), (by first | rfl | (simp; done) | (simp [*]; done)), H', ⟨Nat.le_refl _⟩, ⟨by (with_reducible repeat (first | apply Kd.S_alloc | apply Kd.S_drewN | apply Kd.S_drew)); exact Kd.S_mono (Kd.S_far (p := ⟨gb129, 1, none⟩) (Kd.S_far (p := ⟨gb129, 0, none⟩) (Kd.S_mono HO_3.out (fun k_ hk => (⟨hk, hk.2⟩ : _ ∧ k_ ≠ gb129))) (fun _ hk => hk.2) (.int .i64 ((rd_T52 l0 x4_1).f0))) (fun _ hk => hk.2) (.slice none 0 0)) (fun _ hk => ⟨(by simp [Value.ownBlock]), hk.1.2⟩)⟩, ⟨by first | exact Kd.R_nil _ _ _ _ _ | exact Kd.N_nil _ _ _ _ _ | exact Kd.V_nil _ _ _ _ _ | exact Kd.Q_nil _ _ _ _ _ | exact Kd.S_nil _ _ _ _ _⟩, ⟨by (with_reducible repeat (first | refine blk_drewN ?_ _ | refine blk_drew ?_ | refine blk_alloc ?_ _)); refine blk_put (cs := #[.int .i64 ((rd_T52 l0 x4_1).f0), .slice none 0 0]) ?_ 1 _ rfl; (with_reducible repeat (first | refine blk_drewN ?_ _ | refine blk_drew ?_ | refine blk_alloc ?_ _)); refine blk_put (cs := #[.int .i64 0, .slice none 0 0]) ?_ 0 _ rfl; (with_reducible repeat (first | refine blk_drewN ?_ _ | refine blk_drew ?_ | refine blk_alloc ?_ _)); exact BK129.out⟩, ⟨by repeat (first | (with_reducible first | exact HB.out | apply below_alloc | apply pw_below_drewN | apply below_drew1 | refine below_set ?_ GE129.out) | exact HB.out)⟩⟩
          case round =>
            clear H'
            try clear c1
            try clear p1
            try clear q1
            try clear hx1
            try clear c2
            try clear c2b0
            try clear p2
            try clear c3
            try clear c3b0
            try clear hcz5_0
            try clear hcz5_1
            try clear hfz5_0
            try clear hfz5_1
            try clear hx128_0
            try clear hx128_1
            try clear p128
            try clear q128
            obtain ⟨x6_2, x130001_2, u130001, rfl, HA, HK2, HO_3, HO_130001, BK129, HB⟩ := hrel
            cases gk with
            | zero => exact absurd HA.out (by simp [haymowlaw12_of.l1])
            | succ k2 =>
              have H := HA.out
              clear HA
              simp only [haymowlaw12_of.l1] at H
              by_cases c6 : 0 ≤ x4_1
              · rw [if_pos c6] at H
                have c6b0 : decide (0 ≤ x4_1) = true := decide_eq_true c6
                clear c6
                by_cases c7 : x4_1 < (l0.length : Int)
                · rw [if_pos c7] at H
                  have c7b0 : decide (x4_1 < (l0.length : Int)) = true := decide_eq_true c7
                  clear c7
                  by_cases c8 : x6_2 < (((rd_T52 l0 x4_1).f1).length : Int)
                  · rw [if_pos c8] at H
                    have c8b0 : decide (x6_2 < (((rd_T52 l0 x4_1).f1).length : Int)) = true := decide_eq_true c8
                    clear c8
                    by_cases c9 : 0 ≤ x6_2
                    · rw [if_pos c9] at H
                      have c9b0 : decide (0 ≤ x6_2) = true := decide_eq_true c9
                      clear c9
                      by_cases c10 : x130001_2.length < 3518437208883
                      · rw [if_pos c10] at H
                        have LMc10 := Aside0.mk c10
                        clear c10
                        obtain ⟨y134, hy134⟩ : ∃ y_ : List (S65), y_ = (x130001_2 ++ [(⟨(rd_T61 ((rd_T52 l0 x4_1).f1) x6_2).f0, (rd_T61 ((rd_T52 l0 x4_1).f1) x6_2).f1, (rd_T61 ((rd_T52 l0 x4_1).f1) x6_2).f2, (rd_T61 ((rd_T52 l0 x4_1).f1) x6_2).f3, (rd_T61 ((rd_T52 l0 x4_1).f1) x6_2).f4⟩ : S65)]) := ⟨_, rfl⟩
                        replace H : (haymowlaw12_of.l1 k2 l0 x3_1 x4_1 (wrap64 (x6_2 + 1)) ((rd_T52 l0 x4_1).f0) y134) = some r := by first | (rw [hy134]; with_reducible exact H) | (have H2_ := (Option.bind_some _ _).symm.trans H; rw [hy134]; with_reducible exact H2_) | (have H2_ := (Option.bind_some _ _).symm.trans H; with_reducible exact H2_) | with_reducible exact H | (rw [hy134]; exact H) | exact H
                        have Ny134 := Aside0.mk hy134
                        clear hy134
                        have H' := Aside0.mk H
                        clear H
                        have p130 : 0 ≤ (x4_1 : Int) := of_decide_eq_true (by first | (with_reducible assumption) | assumption)
                        have q130 : x4_1 < (l0.length : Int) := of_decide_eq_true (by first | (with_reducible assumption) | assumption)
                        obtain ⟨ad130, A130_1, c130_1, e130, hx130_0, hx130_1, hl130_1, hi130_1⟩ := at_T52 HR0.out x4_1 p130 q130
                        obtain rfl : ad128 = ad130 := (by injection e130)
                        replace hx130_0 := (HB.out.cell (World.block_lt_of_cell? w _ hx130_0)).trans hx130_0
                        replace hx130_1 := (HB.out.cell (World.block_lt_of_cell? w _ hx130_1)).trans hx130_1
                        have HR130_1 := Aside0.mk hi130_1
                        have HC130_1 := Aside0.mk hl130_1
                        clear hi130_1 hl130_1
                        replace p130 := eq_true p130
                        replace q130 := eq_true q130
                        have p131 : 0 ≤ (x4_1 : Int) := of_decide_eq_true (by first | (with_reducible assumption) | assumption)
                        have q131 : x4_1 < (l0.length : Int) := of_decide_eq_true (by first | (with_reducible assumption) | assumption)
                        obtain ⟨ad131, A131_1, c131_1, e131, hx131_0, hx131_1, hl131_1, hi131_1⟩ := at_T52 HR0.out x4_1 p131 q131
                        obtain rfl : ad128 = ad131 := (by injection e131)
                        replace hx131_0 := (HB.out.cell (World.block_lt_of_cell? w _ hx131_0)).trans hx131_0
                        replace hx131_1 := (HB.out.cell (World.block_lt_of_cell? w _ hx131_1)).trans hx131_1
                        have HR131_1 := Aside0.mk hi131_1
                        have HC131_1 := Aside0.mk hl131_1
                        clear hi131_1 hl131_1
                        replace p131 := eq_true p131
                        replace q131 := eq_true q131
                        have ea_ := Option.some.inj (hx130_1.symm.trans hx131_1)
                        injection ea_ with ea_ en_ ec_
                        subst ea_
                        subst ec_
                        clear en_
                        have p132 : 0 ≤ (x6_2 : Int) := of_decide_eq_true (by first | (with_reducible assumption) | assumption)
                        have q132 : x6_2 < (((rd_T52 l0 x4_1).f1).length : Int) := of_decide_eq_true (by first | (with_reducible assumption) | assumption)
                        obtain ⟨ad132, e132, hx132_0, hx132_1, hx132_2, hx132_3, hx132_4⟩ := at_T61 HR131_1.out x6_2 p132 q132
                        cases e132
                        replace hx132_0 := (HB.out.cell (World.block_lt_of_cell? w _ hx132_0)).trans hx132_0
                        replace hx132_1 := (HB.out.cell (World.block_lt_of_cell? w _ hx132_1)).trans hx132_1
                        replace hx132_2 := (HB.out.cell (World.block_lt_of_cell? w _ hx132_2)).trans hx132_2
                        replace hx132_3 := (HB.out.cell (World.block_lt_of_cell? w _ hx132_3)).trans hx132_3
                        replace hx132_4 := (HB.out.cell (World.block_lt_of_cell? w _ hx132_4)).trans hx132_4
                        replace p132 := eq_true p132
                        replace q132 := eq_true q132
                        go_wp2_with (first | ((with_reducible refine gate_dst (N := 7) rfl ?_); refine box_event ?hg (N := 7) ?hd (cs := #[.int .i64 0, .int .i64 0, .int .i64 0, .int .i64 0, .int .i64 0]) (t := 61) ?hr ?_; (case hd => rfl); (case hg => rfl); (case hr => first | (go_simp; done) | (go_simp; rfl)); intro gb133 hg w11 hbox hb; have n0_ := Aside0.mk (Kd.S_below (by (with_reducible repeat (first | apply Kd.S_alloc | apply Kd.S_drewN | apply Kd.S_drew)); exact HO_3.out) hb); have n1_ := Aside0.mk (Kd.R_below (by (with_reducible repeat (first | apply Kd.R_alloc | apply Kd.R_drewN | apply Kd.R_drew)); exact HO_130001.out) hb); have n2_ := Aside0.mk (blk_below (g := gb129) (o := .cells #[.int .i64 ((rd_T52 l0 x4_1).f0), u130001] 68 (0, 0)) (by (with_reducible repeat (first | refine blk_drewN ?_ _ | refine blk_drew ?_ | refine blk_alloc ?_ _)); exact BK129.out) hb); have n3_ := Aside0.mk (below_step (by repeat (first | (with_reducible first | exact HB.out | apply below_alloc | apply pw_below_drewN | apply below_drew1 | refine below_set ?_ GE129.out) | exact HB.out)) hb); have n4_ := Aside0.mk (hbox); have n5_ := Aside0.mk ((by rw [hg]; exact (below_size (by repeat (first | (with_reducible first | exact HB.out | apply below_alloc | apply pw_below_drewN | apply below_drew1 | refine below_set ?_ GE129.out) | exact HB.out))) : w.heap.size ≤ gb133)); have n6_ := Aside0.mk ((by rw [hg]; exact (below_size (by repeat (first | (with_reducible first | exact HB.out | apply below_alloc | apply pw_below_drewN | apply below_drew1 | refine below_set ?_ GE129.out) | exact HB.out))) : w.heap.size ≤ gb133)); have n7_ := Aside0.mk ((by rw [hg]; exact Nat.ne_of_lt (blk_lt (g := gb129) (o := .cells #[.int .i64 ((rd_T52 l0 x4_1).f0), u130001] 68 (0, 0)) (by (with_reducible repeat (first | refine blk_drewN ?_ _ | refine blk_drew ?_ | refine blk_alloc ?_ _)); exact BK129.out)) : gb129 ≠ gb133)); have n8_ := Aside0.mk ((by rw [hg]; exact Nat.ne_of_gt (blk_lt (g := gb129) (o := .cells #[.int .i64 ((rd_T52 l0 x4_1).f0), u130001] 68 (0, 0)) (by (with_reducible repeat (first | refine blk_drewN ?_ _ | refine blk_drew ?_ | refine blk_alloc ?_ _)); exact BK129.out)) : gb133 ≠ gb129)); clear HO_3; clear HO_130001; clear BK129; clear HB; have HO_3 := n0_; have HO_130001 := n1_; have BK129 := n2_; have HB := n3_; have BK133 := n4_; have GW133 := n5_; have GE133 := n6_; have NB129_133 := n7_; have NB133_129 := n8_; clear n0_ n1_ n2_ n3_ n4_ n5_ n6_ n7_ n8_; clear hb hbox hg; have hnb12 := NB133_129.out; have hnc12 := NB129_133.out; have hcz13_0 : w11.cell? ⟨gb133, 0, none⟩ = some (.int .i64 0) := (blk_cell BK133.out 0).trans rfl; have hcz13_1 : w11.cell? ⟨gb133, 1, none⟩ = some (.int .i64 0) := (blk_cell BK133.out 1).trans rfl; have hcz13_2 : w11.cell? ⟨gb133, 2, none⟩ = some (.int .i64 0) := (blk_cell BK133.out 2).trans rfl; have hcz13_3 : w11.cell? ⟨gb133, 3, none⟩ = some (.int .i64 0) := (blk_cell BK133.out 3).trans rfl; have hcz13_4 : w11.cell? ⟨gb133, 4, none⟩ = some (.int .i64 0) := (blk_cell BK133.out 4).trans rfl; have hfz13_0 := blk_frozen BK133.out 0; have hfz13_1 := blk_frozen BK133.out 1; have hfz13_2 := blk_frozen BK133.out 2; have hfz13_3 := blk_frozen BK133.out 3; have hfz13_4 := blk_frozen BK133.out 4; have hcz14_0 : w11.cell? ⟨gb129, 0, none⟩ = some (.int .i64 ((rd_T52 l0 x4_1).f0)) := (blk_cell BK129.out 0).trans rfl; have hcz14_1 : w11.cell? ⟨gb129, 1, none⟩ = some (u130001) := (blk_cell BK129.out 1).trans rfl; have hfz14_0 := blk_frozen BK129.out 0; have hfz14_1 := blk_frozen BK129.out 1) | ((with_reducible refine gate_builtin (b := .append) (xs := #[.tmp 39, .tmp 51]) rfl ?_); at_builtin; refine Kd.R_append k65 (w0 := w) w.heap.size rfl (.tmp 39) (.tmp 51) 66 65 (.agg #[(.int .i64 0), (.int .i64 0), (.int .i64 0), (.int .i64 0), (.int .i64 0)]) 40 rfl Try.underlying66 info65 rfl (by decide) (by omega) u130001 x130001_2 (⟨(rd_T61 ((rd_T52 l0 x4_1).f1) x6_2).f0, (rd_T61 ((rd_T52 l0 x4_1).f1) x6_2).f1, (rd_T61 ((rd_T52 l0 x4_1).f1) x6_2).f2, (rd_T61 ((rd_T52 l0 x4_1).f1) x6_2).f3, (rd_T61 ((rd_T52 l0 x4_1).f1) x6_2).f4⟩ : S65) [.int .i64 ((rd_T61 ((rd_T52 l0 x4_1).f1) x6_2).f0), .int .i64 ((rd_T61 ((rd_T52 l0 x4_1).f1) x6_2).f1), .int .i64 ((rd_T61 ((rd_T52 l0 x4_1).f1) x6_2).f2), .int .i64 ((rd_T61 ((rd_T52 l0 x4_1).f1) x6_2).f3), .int .i64 ((rd_T61 ((rd_T52 l0 x4_1).f1) x6_2).f4)] (fun _ => True) (fun _ => False) rfl (by first | (go_simp; done) | (go_simp; rfl)) ?aP (fun _ hk => hk.elim) ?aF ?aO ?aB ?aS ?aL ?_; (case aP => exact k65_mkM _ _ _ (⟨(rd_T61 ((rd_T52 l0 x4_1).f1) x6_2).f0, (rd_T61 ((rd_T52 l0 x4_1).f1) x6_2).f1, (rd_T61 ((rd_T52 l0 x4_1).f1) x6_2).f2, (rd_T61 ((rd_T52 l0 x4_1).f1) x6_2).f3, (rd_T61 ((rd_T52 l0 x4_1).f1) x6_2).f4⟩ : S65)); (case aB => exact (by repeat (first | (with_reducible first | exact HB.out | apply below_alloc | apply pw_below_drewN | apply below_drew1 | refine below_set ?_ GE129.out | refine below_set ?_ GE133.out) | exact HB.out))); (case aF => exact (fun _ _ => trivial)); (case aO => exact (by (with_reducible repeat (first | apply Kd.R_alloc | apply Kd.R_drewN | apply Kd.R_drew)); exact Kd.R_mono (Kd.R_far (p := ⟨gb133, 4, none⟩) (Kd.R_far (p := ⟨gb133, 3, none⟩) (Kd.R_far (p := ⟨gb133, 2, none⟩) (Kd.R_far (p := ⟨gb133, 1, none⟩) (Kd.R_far (p := ⟨gb133, 0, none⟩) (Kd.R_types HO_130001.out BK133.out (by decide)) (fun _ hk => hk.2) (.int .i64 ((rd_T61 ((rd_T52 l0 x4_1).f1) x6_2).f0))) (fun _ hk => hk.2) (.int .i64 ((rd_T61 ((rd_T52 l0 x4_1).f1) x6_2).f1))) (fun _ hk => hk.2) (.int .i64 ((rd_T61 ((rd_T52 l0 x4_1).f1) x6_2).f2))) (fun _ hk => hk.2) (.int .i64 ((rd_T61 ((rd_T52 l0 x4_1).f1) x6_2).f3))) (fun _ hk => hk.2) (.int .i64 ((rd_T61 ((rd_T52 l0 x4_1).f1) x6_2).f4))) (fun _ hk => trivial))); (case aS => exact (below_size (by repeat (first | (with_reducible first | exact HB.out | apply below_alloc | apply pw_below_drewN | apply below_drew1 | refine below_set ?_ GE129.out | refine below_set ?_ GE133.out) | exact HB.out)))); (case aL => have := LMc10.out; omega); intro v135 w15 ho hb hg hat; rw [← Ny134.out] at ho; have n0_ := Aside0.mk (Kd.S_after (ok := (fun k_ => k_ ≠ gb129)) (by (with_reducible repeat (first | apply Kd.S_alloc | apply Kd.S_drewN | apply Kd.S_drew)); exact Kd.S_mono (Kd.S_far (p := ⟨gb133, 4, none⟩) (Kd.S_far (p := ⟨gb133, 3, none⟩) (Kd.S_far (p := ⟨gb133, 2, none⟩) (Kd.S_far (p := ⟨gb133, 1, none⟩) (Kd.S_far (p := ⟨gb133, 0, none⟩) (Kd.S_types HO_3.out BK133.out (by decide)) (fun _ hk => hk.2) (.int .i64 ((rd_T61 ((rd_T52 l0 x4_1).f1) x6_2).f0))) (fun _ hk => hk.2) (.int .i64 ((rd_T61 ((rd_T52 l0 x4_1).f1) x6_2).f1))) (fun _ hk => hk.2) (.int .i64 ((rd_T61 ((rd_T52 l0 x4_1).f1) x6_2).f2))) (fun _ hk => hk.2) (.int .i64 ((rd_T61 ((rd_T52 l0 x4_1).f1) x6_2).f3))) (fun _ hk => hk.2) (.int .i64 ((rd_T61 ((rd_T52 l0 x4_1).f1) x6_2).f4))) (fun _ hk => ⟨hk.1.2, hk.1.1⟩)) hg hat); have n1_ := Aside0.mk (blk_grown (g := gb129) (o := .cells #[.int .i64 ((rd_T52 l0 x4_1).f0), u130001] 68 (0, 0)) (by (with_reducible repeat (first | refine blk_drewN ?_ _ | refine blk_drew ?_ | refine blk_alloc ?_ _)); refine blk_far ?_ NB129_133.out _; (with_reducible repeat (first | refine blk_drewN ?_ _ | refine blk_drew ?_ | refine blk_alloc ?_ _)); refine blk_far ?_ NB129_133.out _; (with_reducible repeat (first | refine blk_drewN ?_ _ | refine blk_drew ?_ | refine blk_alloc ?_ _)); refine blk_far ?_ NB129_133.out _; (with_reducible repeat (first | refine blk_drewN ?_ _ | refine blk_drew ?_ | refine blk_alloc ?_ _)); refine blk_far ?_ NB129_133.out _; (with_reducible repeat (first | refine blk_drewN ?_ _ | refine blk_drew ?_ | refine blk_alloc ?_ _)); refine blk_far ?_ NB129_133.out _; (with_reducible repeat (first | refine blk_drewN ?_ _ | refine blk_drew ?_ | refine blk_alloc ?_ _)); exact BK129.out) hg (Kd.R_ne HO_130001.out BK129.out (by decide))); have n2_ := Aside0.mk (blk_grown (g := gb133) (o := .cells #[.int .i64 ((rd_T61 ((rd_T52 l0 x4_1).f1) x6_2).f0), .int .i64 ((rd_T61 ((rd_T52 l0 x4_1).f1) x6_2).f1), .int .i64 ((rd_T61 ((rd_T52 l0 x4_1).f1) x6_2).f2), .int .i64 ((rd_T61 ((rd_T52 l0 x4_1).f1) x6_2).f3), .int .i64 ((rd_T61 ((rd_T52 l0 x4_1).f1) x6_2).f4)] 61 (0, 0)) (by (with_reducible repeat (first | refine blk_drewN ?_ _ | refine blk_drew ?_ | refine blk_alloc ?_ _)); refine blk_put (cs := #[.int .i64 ((rd_T61 ((rd_T52 l0 x4_1).f1) x6_2).f0), .int .i64 ((rd_T61 ((rd_T52 l0 x4_1).f1) x6_2).f1), .int .i64 ((rd_T61 ((rd_T52 l0 x4_1).f1) x6_2).f2), .int .i64 ((rd_T61 ((rd_T52 l0 x4_1).f1) x6_2).f3), .int .i64 0]) ?_ 4 _ rfl; (with_reducible repeat (first | refine blk_drewN ?_ _ | refine blk_drew ?_ | refine blk_alloc ?_ _)); refine blk_put (cs := #[.int .i64 ((rd_T61 ((rd_T52 l0 x4_1).f1) x6_2).f0), .int .i64 ((rd_T61 ((rd_T52 l0 x4_1).f1) x6_2).f1), .int .i64 ((rd_T61 ((rd_T52 l0 x4_1).f1) x6_2).f2), .int .i64 0, .int .i64 0]) ?_ 3 _ rfl; (with_reducible repeat (first | refine blk_drewN ?_ _ | refine blk_drew ?_ | refine blk_alloc ?_ _)); refine blk_put (cs := #[.int .i64 ((rd_T61 ((rd_T52 l0 x4_1).f1) x6_2).f0), .int .i64 ((rd_T61 ((rd_T52 l0 x4_1).f1) x6_2).f1), .int .i64 0, .int .i64 0, .int .i64 0]) ?_ 2 _ rfl; (with_reducible repeat (first | refine blk_drewN ?_ _ | refine blk_drew ?_ | refine blk_alloc ?_ _)); refine blk_put (cs := #[.int .i64 ((rd_T61 ((rd_T52 l0 x4_1).f1) x6_2).f0), .int .i64 0, .int .i64 0, .int .i64 0, .int .i64 0]) ?_ 1 _ rfl; (with_reducible repeat (first | refine blk_drewN ?_ _ | refine blk_drew ?_ | refine blk_alloc ?_ _)); refine blk_put (cs := #[.int .i64 0, .int .i64 0, .int .i64 0, .int .i64 0, .int .i64 0]) ?_ 0 _ rfl; (with_reducible repeat (first | refine blk_drewN ?_ _ | refine blk_drew ?_ | refine blk_alloc ?_ _)); exact BK133.out) hg (Kd.R_ne HO_130001.out BK133.out (by decide))); have n3_ := Aside0.mk (hb); have n4_ := Aside0.mk (ho); clear HO_3; clear BK129; clear BK133; clear HB; clear HO_130001; have HO_3 := n0_; have BK129 := n1_; have BK133 := n2_; have HB := n3_; have HO136 := n4_; clear n0_ n1_ n2_ n3_ n4_; clear ho hb hg hat; obtain ⟨Ao16, co16, eo16⟩ := Kd.R_slice HO136.out; subst eo16; have hcz17_0 : w15.cell? ⟨gb129, 0, none⟩ = some (.int .i64 ((rd_T52 l0 x4_1).f0)) := (blk_cell BK129.out 0).trans rfl; have hcz17_1 : w15.cell? ⟨gb129, 1, none⟩ = some (u130001) := (blk_cell BK129.out 1).trans rfl; have hfz17_0 := blk_frozen BK129.out 0; have hfz17_1 := blk_frozen BK129.out 1))
                        go_roundg k2
                        case measure => have := HK1.out; have := HK2.out; omega
                        case rel => exact ⟨(wrap64 (x6_2 + 1)), (y134), (.slice Ao16 y134.length co16), (by first | rfl | (simp; done) | (simp [*]; done)), H', ⟨by have := HK1.out; have := HK2.out; omega⟩, ⟨by (with_reducible repeat (first | apply Kd.S_alloc | apply Kd.S_drewN | apply Kd.S_drew)); exact Kd.S_mono (Kd.S_far (p := ⟨gb129, 1, none⟩) (Kd.S_mono HO_3.out (fun k_ hk => (⟨hk, hk.1⟩ : _ ∧ k_ ≠ gb129))) (fun _ hk => hk.2) (.slice Ao16 y134.length co16)) (fun _ hk => ⟨hk.1.2, hk.1.1⟩)⟩, ⟨by (with_reducible repeat (first | apply Kd.R_alloc | apply Kd.R_drewN | apply Kd.R_drew)); exact Kd.R_mono (Kd.R_far (p := ⟨gb129, 1, none⟩) (Kd.R_types HO136.out BK129.out (by decide)) (fun _ hk => hk.2) (.slice Ao16 y134.length co16)) (fun _ hk => trivial)⟩, ⟨by (with_reducible repeat (first | refine blk_drewN ?_ _ | refine blk_drew ?_ | refine blk_alloc ?_ _)); refine blk_put (cs := #[.int .i64 ((rd_T52 l0 x4_1).f0), u130001]) ?_ 1 _ rfl; (with_reducible repeat (first | refine blk_drewN ?_ _ | refine blk_drew ?_ | refine blk_alloc ?_ _)); exact BK129.out⟩, ⟨by repeat (first | (with_reducible first | exact HB.out | apply below_alloc | apply pw_below_drewN | apply below_drew1 | refine below_set ?_ GE129.out | refine below_set ?_ GE133.out) | exact HB.out)⟩⟩
                      · rw [if_neg c10] at H
                        exact absurd H (by simp)
                    · rw [if_neg c9] at H
                      exact absurd H (by simp)
                  · rw [if_neg c8] at H
                    have c8b0 : decide (x6_2 < (((rd_T52 l0 x4_1).f1).length : Int)) = false := decide_eq_false c8
                    clear c8
                    by_cases c18 : x3_1.length < 4398046511104
                    · rw [if_pos c18] at H
                      have LMc18 := Aside0.mk c18
                      clear c18
                      obtain ⟨y137, hy137⟩ : ∃ y_ : List (S68), y_ = (x3_1 ++ [(⟨((rd_T52 l0 x4_1).f0), x130001_2⟩ : S68)]) := ⟨_, rfl⟩
                      replace H : (haymowlaw12_of.l0 k2 l0 y137 (wrap64 (x4_1 + 1))) = some r := by first | (rw [hy137]; with_reducible exact H) | (have H2_ := (Option.bind_some _ _).symm.trans H; rw [hy137]; with_reducible exact H2_) | (have H2_ := (Option.bind_some _ _).symm.trans H; with_reducible exact H2_) | with_reducible exact H | (rw [hy137]; exact H) | exact H
                      have Ny137 := Aside0.mk hy137
                      clear hy137
                      have H' := Aside0.mk H
                      clear H
                      have p130 : 0 ≤ (x4_1 : Int) := of_decide_eq_true (by first | (with_reducible assumption) | assumption)
                      have q130 : x4_1 < (l0.length : Int) := of_decide_eq_true (by first | (with_reducible assumption) | assumption)
                      obtain ⟨ad130, A130_1, c130_1, e130, hx130_0, hx130_1, hl130_1, hi130_1⟩ := at_T52 HR0.out x4_1 p130 q130
                      obtain rfl : ad128 = ad130 := (by injection e130)
                      replace hx130_0 := (HB.out.cell (World.block_lt_of_cell? w _ hx130_0)).trans hx130_0
                      replace hx130_1 := (HB.out.cell (World.block_lt_of_cell? w _ hx130_1)).trans hx130_1
                      have HR130_1 := Aside0.mk hi130_1
                      have HC130_1 := Aside0.mk hl130_1
                      clear hi130_1 hl130_1
                      replace p130 := eq_true p130
                      replace q130 := eq_true q130
                      have hcz19_0 : wr.cell? ⟨gb129, 0, none⟩ = some (.int .i64 ((rd_T52 l0 x4_1).f0)) := (blk_cell BK129.out 0).trans rfl
                      have hcz19_1 : wr.cell? ⟨gb129, 1, none⟩ = some (u130001) := (blk_cell BK129.out 1).trans rfl
                      have hfz19_0 := blk_frozen BK129.out 0
                      have hfz19_1 := blk_frozen BK129.out 1
                      obtain ⟨Ao21, co21, eo21⟩ := Kd.R_slice HO_130001.out
                      subst eo21
                      go_wp2_with (first | ((with_reducible refine gate_builtin (b := .append) (xs := #[.tmp 54, .tmp 56]) rfl ?_); at_builtin; refine Kd.S_append k68 (w0 := w) w.heap.size rfl (.tmp 54) (.tmp 56) 40 68 (.agg #[(.int .i64 0), (.slice none 0 0)]) 32 rfl Try.underlying40 info68 rfl (by decide) (by omega) u3 x3_1 (⟨((rd_T52 l0 x4_1).f0), x130001_2⟩ : S68) [.int .i64 ((rd_T52 l0 x4_1).f0), .slice Ao21 x130001_2.length co21] (fun k_ => k_ ≠ gb129) (fun k_ => some k_ = (.slice Ao21 x130001_2.length co21 : Value).ownBlock) rfl rfl ?aP (fun k_ hk_ => ((Kd.R_mono (ok' := fun k_ => ((fun k_ => k_ ≠ gb129)) k_ ∧ some k_ ≠ (u3 : Value).ownBlock) (Kd.R_types (Kd.R_apart' (HO_130001.out) (Kd.S_typed HO_3.out) (by decide)) BK129.out (by decide)) (fun k_ hk => ⟨hk.2, hk.1.2⟩))).1 k_ hk_.symm) ?aF ?aO ?aB ?aS ?aL ?_; (case aP => exact k68_mkM _ _ _ (⟨((rd_T52 l0 x4_1).f0), x130001_2⟩ : S68) (Kd.R_mono (Kd.R_tight rfl (Kd.R_mono (ok' := fun k_ => ((fun k_ => k_ ≠ gb129)) k_ ∧ some k_ ≠ (u3 : Value).ownBlock) (Kd.R_types (Kd.R_apart' (HO_130001.out) (Kd.S_typed HO_3.out) (by decide)) BK129.out (by decide)) (fun k_ hk => ⟨hk.2, hk.1.2⟩))) (fun _ h_ => h_))); (case aB => exact (by repeat (first | (with_reducible first | exact HB.out | apply below_alloc | apply pw_below_drewN | apply below_drew1 | refine below_set ?_ GE129.out) | exact HB.out))); (case aF => exact (fun k_ hk => Kd.freshB (g := gb129) (o := .cells #[.int .i64 ((rd_T52 l0 x4_1).f0), .slice Ao21 x130001_2.length co21] 68 (0, 0)) (by (with_reducible repeat (first | refine blk_drewN ?_ _ | refine blk_drew ?_ | refine blk_alloc ?_ _)); exact BK129.out) k_ hk)); (case aO => exact (by (with_reducible repeat (first | apply Kd.S_alloc | apply Kd.S_drewN | apply Kd.S_drew)); exact Kd.S_mono HO_3.out (fun k_ hk => ⟨hk.2, fun e_ => hk.1 e_⟩))); (case aS => exact (below_size (by repeat (first | (with_reducible first | exact HB.out | apply below_alloc | apply pw_below_drewN | apply below_drew1 | refine below_set ?_ GE129.out) | exact HB.out)))); (case aL => have := LMc18.out; omega); intro v138 w20 ho hb hg hat; rw [← Ny137.out] at ho; have n0_ := Aside0.mk (blk_grown (g := gb129) (o := .cells #[.int .i64 ((rd_T52 l0 x4_1).f0), .slice Ao21 x130001_2.length co21] 68 (0, 0)) (by (with_reducible repeat (first | refine blk_drewN ?_ _ | refine blk_drew ?_ | refine blk_alloc ?_ _)); exact BK129.out) hg (Kd.S_away HO_3.out (fun _ hk => hk.2))); have n1_ := Aside0.mk (hb); have n2_ := Aside0.mk (ho); clear BK129; clear HB; clear HO_3; clear HO_130001; have BK129 := n0_; have HB := n1_; have HO139 := n2_; clear n0_ n1_ n2_; clear ho hb hg hat))
                      go_roundg k2
                      case measure => have := HK1.out; have := HK2.out; omega
                      case rel => exact ⟨(y137), (wrap64 (x4_1 + 1)), (by first | rfl | (simp; done) | (simp [*]; done)), H', ⟨by have := HK1.out; have := HK2.out; omega⟩, ⟨by (with_reducible repeat (first | apply Kd.S_alloc | apply Kd.S_drewN | apply Kd.S_drew)); exact Kd.S_mono HO139.out (fun _ hk => trivial)⟩, ⟨by repeat (first | (with_reducible first | exact HB.out | apply below_alloc | apply pw_below_drewN | apply below_drew1 | refine below_set ?_ GE129.out) | exact HB.out)⟩⟩
                    · rw [if_neg c18] at H
                      exact absurd H (by simp)
                · rw [if_neg c7] at H
                  exact absurd H (by simp)
              · rw [if_neg c6] at H
                exact absurd H (by simp)
        · rw [if_neg c3] at H
          exact absurd H (by simp)
      · rw [if_neg c2] at H
        have c2b0 : decide (x4_1 < (l0.length : Int)) = false := decide_eq_false c2
        clear c2
        obtain rfl := Option.some.inj H
        go_wp2
        go_ret
        exact ⟨_, by first | rfl | (simp [errW_none, errW_some] <;> rfl) | (simp [*, errW_none, errW_some] <;> rfl), by (with_reducible repeat (first | apply Kd.S_alloc | apply Kd.S_drewN | apply Kd.S_drew)); exact HO_3.out, by repeat (first | (with_reducible first | exact HB.out | apply below_alloc | apply pw_below_drewN | apply below_drew1) | exact HB.out)⟩

end Go.Proofs.Ytcciejcpijlkfaa.H

namespace Go.Proofs.Ytcciejcpijlkfaa.H
open Go.RowKit Go.Proofs.YtcciejcpijlkfaaW.PrintWords Go.Proofs.YtcciejcpijlkfaaW.PrintLast Go.Proofs.YtcciejcpijlkfaaW.PrintMore
set_option linter.unusedVariables false
set_option linter.unusedSimpArgs false

theorem wrap_id {x : Int} (h0 : -9223372036854775808 ≤ x) (h1 : x < 9223372036854775808) : wrap64 x = x := by unfold wrap64; omega
theorem rd50 {l : List S52} {i : Nat} (h : i < l.length) : rd_T52 l (i : Int) = l[i] := by simp [rd_T52, h]
theorem rd58 {l : List S61} {i : Nat} (h : i < l.length) : rd_T61 l (i : Int) = l[i] := by simp [rd_T61, h]
theorem drop_cons {α : Type} {l : List α} {i : Nat} (h : i < l.length) : l.drop i = l[i] :: l.drop (i + 1) := List.drop_eq_getElem_cons h

def ofI (x : S61) : S65 := ⟨x.f0, x.f1, x.f2, x.f3, x.f4⟩
def ofF (f : S52) : S68 := ⟨f.f0, f.f1.map ofI⟩

theorem light_loop (l : List S52) (hl : l.length ≤ 20) : ∀ (d i : Nat), l.length - i = d → i ≤ l.length → ∃ b, Ev (fun k => haymowlaw12_light.l0 k l i) b ∧ (b = true → ∀ f ∈ l.drop i, f.f1.length ≤ 70)
  | 0, i, hd, hi => by
    obtain rfl : i = l.length := by omega
    refine ⟨true, Ev.step (f := fun _ => some true) (fun k => ?_) (Ev.now _), by simp⟩
    simp [haymowlaw12_light.l0]
  | d + 1, i, hd, hi => by
    have hlt : i < l.length := by omega
    by_cases hb : l[i].f1.length > 70
    · refine ⟨false, Ev.step (f := fun _ => some false) (fun k => ?_) (Ev.now _), by simp⟩
      simp only [haymowlaw12_light.l0, rd50 hlt]
      rw [if_pos (by omega), if_pos (by omega), if_pos (by omega)]
    · obtain ⟨b, h1, h2⟩ := light_loop l hl d (i + 1) (by omega) (by omega)
      refine ⟨b, Ev.step (fun k => ?_) h1, fun e f hf => ?_⟩
      · simp only [haymowlaw12_light.l0, rd50 hlt]
        rw [if_pos (by omega), if_pos (by omega), if_neg (by omega), wrap_id (x := (i : Int) + 1) (by omega) (by omega)]
        rfl
      · rw [drop_cons hlt] at hf
        rcases List.mem_cons.1 hf with rfl | hf
        · omega
        · exact h2 e f hf
theorem light_ev (l : List S52) : ∃ b, Ev (fun k => haymowlaw12_light.f k l) b ∧ (b = true → l.length ≤ 20 ∧ ∀ f ∈ l, f.f1.length ≤ 70) := by
  by_cases hl : (l.length : Int) > 20
  · exact ⟨false, Ev.congr (fun k => by unfold haymowlaw12_light.f; rw [if_pos hl]) (Ev.now _), by simp⟩
  · obtain ⟨b, h1, h2⟩ := light_loop l (by omega) l.length 0 (by omega) (by omega)
    refine ⟨b, Ev.congr (fun k => by unfold haymowlaw12_light.f; rw [if_neg hl]; rfl) h1, fun e => ⟨by omega, fun f hf => h2 e f (by simpa using hf)⟩⟩

theorem of_inner (l : List S52) (acc : List S68) (i : Nat) (hi : i < l.length) (hf : l[i].f1.length ≤ 300) (c : Int) (r : List S68)
    (hnext : ∀ cs, cs = l[i].f1.map ofI → Ev (fun k => haymowlaw12_of.l0 k l (acc ++ [⟨c, cs⟩]) ((i : Int) + 1)) r) (ha : acc.length < 4398046511104) (hil : l.length < 9223372036854775807) :
    ∀ (d j : Nat) (cs : List S65), l[i].f1.length - j = d → j ≤ l[i].f1.length → cs = (l[i].f1.take j).map ofI → Ev (fun k => haymowlaw12_of.l1 k l acc i j c cs) r
  | 0, j, cs, hd, hj, hcs => by
    obtain rfl : j = l[i].f1.length := by omega
    rw [List.take_length] at hcs
    refine Ev.step (fun k => ?_) (hnext cs hcs)
    simp only [haymowlaw12_of.l1, rd50 hi]
    rw [if_pos (by omega), if_pos (by omega), if_neg (by omega), if_pos ha, wrap_id (x := (i : Int) + 1) (by omega) (by omega)]
  | d + 1, j, cs, hd, hj, hcs => by
    have hlt : j < l[i].f1.length := by omega
    refine Ev.step (fun k => ?_) (of_inner l acc i hi hf c r hnext ha hil d (j + 1) (cs ++ [ofI l[i].f1[j]]) (by omega) (by omega) (by rw [hcs, List.take_succ_eq_append_getElem hlt, List.map_append]; rfl))
    have hc : cs.length = j := by rw [hcs]; simp; omega
    simp only [haymowlaw12_of.l1, rd50 hi, rd58 hlt]
    rw [if_pos (by omega), if_pos (by omega), if_pos (by omega), if_pos (by omega), if_pos (by omega), wrap_id (x := (j : Int) + 1) (by omega) (by omega)]
    rfl
theorem of_loop (l : List S52) (hl : l.length ≤ 300) (hf : ∀ f ∈ l, f.f1.length ≤ 300) : ∀ (d i : Nat) (acc : List S68), l.length - i = d → i ≤ l.length → acc = (l.take i).map ofF → Ev (fun k => haymowlaw12_of.l0 k l acc i) (l.map ofF)
  | 0, i, acc, hd, hi, ha => by
    obtain rfl : i = l.length := by omega
    rw [List.take_length] at ha
    subst ha
    refine Ev.step (f := fun _ => some (l.map ofF)) (fun k => ?_) (Ev.now _)
    simp [haymowlaw12_of.l0]
  | d + 1, i, acc, hd, hi, ha => by
    have hlt : i < l.length := by omega
    have hal : acc.length = i := by rw [ha]; simp; omega
    refine Ev.step (fun k => ?_) (of_inner l acc i hlt (hf _ (List.getElem_mem hlt)) l[i].f0 (l.map ofF) (fun cs hcs => ?_) (by omega) (by omega) _ 0 [] rfl (by omega) (by simp))
    · simp only [haymowlaw12_of.l0, rd50 hlt]
      rw [if_pos (by omega), if_pos (by omega)]
      rfl
    · have := of_loop l hl hf d (i + 1) (acc ++ [⟨l[i].f0, cs⟩]) (by omega) (by omega) (by rw [ha, hcs, List.take_succ_eq_append_getElem hlt, List.map_append]; rfl)
      simpa using this
theorem of_ev (l : List S52) (hl : l.length ≤ 300) (hf : ∀ f ∈ l, f.f1.length ≤ 300) : Ev (fun k => haymowlaw12_of.f k l) (l.map ofF) := by
  have := of_loop l hl hf l.length 0 [] (by omega) (by omega) (by simp)
  exact this

end Go.Proofs.Ytcciejcpijlkfaa.H

set_option linter.unusedVariables false
set_option linter.unusedSimpArgs false
namespace Go.Proofs.Ytcciejcpijlkfaa.H
open Go.RowKit Go.Hay Go.Proofs.YtcciejcpijlkfaaW.PrintWords Go.Proofs.YtcciejcpijlkfaaW.PrintLast Go.Proofs.YtcciejcpijlkfaaW.PrintMore
def cmpP : List Int → List Int → Int
  | [], [] => 0
  | [], _ :: _ => -1
  | _ :: _, [] => 1
  | a :: x, b :: y => if a < b then -1 else if a > b then 1 else cmpP x y
theorem cmp_loop (x y : List Int) (hx : x.length ≤ 4611686018427387904) : ∀ (n i : Nat), x.length - i = n → i ≤ x.length → i ≤ y.length → Ev (fun k => haymowref05_Compare.l0 k x y i) (cmpP (x.drop i) (y.drop i))
  | 0, i, hn, hi, hiy => by
    obtain rfl : i = x.length := by omega
    rw [List.drop_length]
    refine Ev.step (f := fun k => haymowref05_Compare.j1 k x y (x.length : Int) false) (fun k => ?_) (Ev.step (f := fun _ => some _) (fun k => ?_) (Ev.now _))
    · rw [haymowref05_Compare.l0, if_neg (by omega)]
    · rw [haymowref05_Compare.j1, if_neg (by decide)]
      by_cases h : x.length < y.length
      · rw [if_pos (by omega), List.drop_eq_getElem_cons h]; rfl
      · rw [if_neg (by omega), if_neg (by omega), List.drop_eq_nil_of_le (by omega)]; rfl
  | n + 1, i, hn, hi, hiy => by
    have hlt : i < x.length := by omega
    by_cases hly : i < y.length
    · rw [drop_cons hlt, drop_cons hly]
      have e1 : rd x (i : Int) = x[i] := by simp [rd, hlt]
      have e2 : rd y (i : Int) = y[i] := by simp [rd, hly]
      have hj : ∀ k, haymowref05_Compare.j1 (k + 1) x y (i : Int) true = if x[i] < y[i] then some (-1) else if x[i] > y[i] then some 1 else haymowref05_Compare.l0 k x y ((i + 1 : Nat) : Int) := fun k => by
        rw [haymowref05_Compare.j1, if_pos rfl, if_pos (by omega), if_pos (by omega), if_pos (by omega), e1, e2, wrap_id (x := (i : Int) + 1) (by omega) (by omega)]
        rfl
      refine Ev.step (f := fun k => haymowref05_Compare.j1 k x y (i : Int) true) (fun k => ?_) ?_
      · rw [haymowref05_Compare.l0, if_pos (by omega), decide_eq_true (by omega)]
      unfold cmpP
      by_cases h1 : x[i] < y[i]
      · rw [if_pos h1]
        exact Ev.step (f := fun _ => some (-1)) (fun k => by rw [hj, if_pos h1]) (Ev.now _)
      rw [if_neg h1]
      by_cases h2 : x[i] > y[i]
      · rw [if_pos h2]
        exact Ev.step (f := fun _ => some 1) (fun k => by rw [hj, if_neg h1, if_pos h2]) (Ev.now _)
      rw [if_neg h2]
      exact Ev.step (fun k => by rw [hj, if_neg h1, if_neg h2]) (cmp_loop x y hx n (i + 1) (by omega) (by omega) (by omega))
    · rw [drop_cons hlt, show y.drop i = [] from List.drop_eq_nil_of_le (by omega)]
      refine Ev.step (f := fun k => haymowref05_Compare.j1 k x y (i : Int) false) (fun k => ?_) (Ev.step (f := fun _ => some 1) (fun k => ?_) (Ev.now _))
      · rw [haymowref05_Compare.l0, if_pos (by omega), decide_eq_false (by omega)]
      · rw [haymowref05_Compare.j1, if_neg (by decide), if_neg (by omega), if_pos (by omega)]
theorem cmp_ev (x y : List Int) (hx : x.length ≤ 4611686018427387904) : Ev (fun k => haymowref05_Compare.f k x y) (cmpP x y) := cmp_loop x y hx x.length 0 rfl (Nat.zero_le _) (Nat.zero_le _)
theorem cmp_any (A0 : Option Addr) (c0 : Nat) (l0 : List Int) (A1 : Option Addr) (c1 : Nat) (l1 : List Int) (w : World) (h0 : (Kd.int .i64).C w A0 l0.length l0) (hc0 : l0.length ≤ c0) (h1 : (Kd.int .i64).C w A1 l1.length l1) (hc1 : l1.length ≤ c1) (hx : l0.length ≤ 4611686018427387904) :
    Calls Try.prog 24 #[.slice A0 l0.length c0, .slice A1 l1.length c1] w fun e w' => e = .returned (.int .i64 (cmpP l0 l1)) ∧ Drawn0 w w' := by
  obtain ⟨K, hK⟩ := cmp_ev l0 l1 hx
  exact haymowref05_Compare.calls K A0 c0 l0 A1 c1 l1 _ w h0 hc0 h1 hc1 (hK K (Nat.le_refl _))
theorem cmp_is {r : Int} (A0 : Option Addr) (c0 : Nat) (l0 : List Int) (A1 : Option Addr) (c1 : Nat) (l1 : List Int) (w : World) (hr : cmpP l0 l1 = r) (h0 : (Kd.int .i64).C w A0 l0.length l0) (hc0 : l0.length ≤ c0) (h1 : (Kd.int .i64).C w A1 l1.length l1) (hc1 : l1.length ≤ c1) (hx : l0.length ≤ 4611686018427387904) :
    Calls Try.prog 24 #[.slice A0 l0.length c0, .slice A1 l1.length c1] w fun e w' => e = .returned (.int .i64 r) ∧ Drawn0 w w' := hr ▸ cmp_any A0 c0 l0 A1 c1 l1 w h0 hc0 h1 hc1 hx
theorem cmpP_self (x : List Int) : cmpP x x = 0 := by
  induction x with
  | nil => rfl
  | cons a x ih => unfold cmpP; rw [if_neg (by omega), if_neg (by omega)]; exact ih
end Go.Proofs.Ytcciejcpijlkfaa.H

set_option linter.unusedVariables false
set_option linter.unusedSimpArgs false
namespace Go.Proofs.Ytcciejcpijlkfaa.H
open Go.RowKit Go.Hay Go.Proofs.YtcciejcpijlkfaaW.PrintWords Go.Proofs.YtcciejcpijlkfaaW.PrintLast Go.Proofs.YtcciejcpijlkfaaW.PrintMore
theorem eqItems_same (d : Nat) (e : TypeId) (hu : Try.prog.underlying e = some (.int .i64)) (hp : Try.prog.plainKey e = true) (hc : Try.prog.cellsOf e = 1) (xs : List Int) (w : World) : ∀ (is : List Nat), (∀ i ∈ is, i < xs.length) →
    (Op.eqItems (d + 1) e 1 (xs.map (Value.int .i64)).toArray (xs.map (Value.int .i64)).toArray is).run Try.prog w = .ok true w
  | [], _ => rfl
  | i :: is, h => by
    have hpt : (part e (xs.map (Value.int .i64)).toArray (i * 1)).run Try.prog w = .ok (.int .i64 (xs[i]'(h i (List.mem_cons_self ..)))) w := by
      refine run_part_plain w hp ?_
      have hi := h i (List.mem_cons_self ..)
      simp [hi]
    have he : ∀ x : Int, (Op.equalIn (d + 1) e (.int .i64 x) (.int .i64 x)).run Try.prog w = .ok true w := by
      intro x
      simp only [Op.equalIn, Sem.run_bind, run_underlying hu, Result.andThen_ok]
      simp
    simp only [Op.eqItems, Sem.run_bind, hpt, he, Result.andThen_ok]
    exact eqItems_same d e hu hp hc xs w is (fun j hj => h j (List.mem_cons_of_mem _ hj))
theorem eq_array {t : TypeId} (n : Nat) (ht : Try.prog.underlying t = some (.array n 2)) (xs : List Int) (hl : xs.length = n) (w : World) : (Op.equalIn 10000 t (.agg (xs.map (Value.int .i64)).toArray) (.agg (xs.map (Value.int .i64)).toArray)).run Try.prog w = .ok true w := by
  obtain ⟨i, hi⟩ : ∃ i, Try.prog.info? 2 = some i := by
    cases h : Try.prog.info? 2 with
    | some i => exact ⟨i, rfl⟩
    | none => exact absurd h (by decide +kernel)
  have hc : Try.prog.cellsOf 2 = 1 := by kernel_rfl
  rw [run_equalIn_array w 9999 _ _ ht hi, hc]
  exact eqItems_same 9998 2 Try.underlying2 (by kernel_rfl) hc xs w _ (fun i hi => by rw [hl]; exact List.mem_range.1 hi)
theorem eq_arrayI {t : TypeId} (n : Nat) (ht : Try.prog.underlying t = some (.array n 3)) (xs : List Int) (hl : xs.length = n) (w : World) : (Op.equalIn 10000 t (.agg (xs.map (Value.int .i64)).toArray) (.agg (xs.map (Value.int .i64)).toArray)).run Try.prog w = .ok true w := by
  obtain ⟨i, hi⟩ : ∃ i, Try.prog.info? 3 = some i := by
    cases h : Try.prog.info? 3 with
    | some i => exact ⟨i, rfl⟩
    | none => exact absurd h (by decide +kernel)
  have hc : Try.prog.cellsOf 3 = 1 := by kernel_rfl
  rw [run_equalIn_array w 9999 _ _ ht hi, hc]
  exact eqItems_same 9998 3 Try.underlying3 (by kernel_rfl) hc xs w _ (fun i hi => by rw [hl]; exact List.mem_range.1 hi)
end Go.Proofs.Ytcciejcpijlkfaa.H

set_option linter.unusedVariables false
set_option linter.unusedSimpArgs false
namespace Go.Proofs.Ytcciejcpijlkfaa.H
open Go.RowKit Go.Hay Go.Proofs.YtcciejcpijlkfaaW.PrintWords Go.Proofs.YtcciejcpijlkfaaW.PrintLast Go.Proofs.YtcciejcpijlkfaaW.PrintMore
set_option maxRecDepth 100000 in
set_option maxHeartbeats 8000000 in
theorem alike_any (fn at_ st ki : Int) (path : List Int) (r0 r1 r2 r3 r4 r5 r6 r7 h0 h1 h2 h3 : Int) (fb : Nat) (Ap : Option Addr) (cp : Nat) (A2 : Option Addr) (c2 : Nat) (w : World)
    (hL : LF fb ⟨fn, at_, st, ki, path, [r0, r1, r2, r3, r4, r5, r6, r7], [h0, h1, h2, h3]⟩ Ap cp w) (hC : (Kd.int .i64).C w A2 path.length path) (hc : path.length ≤ c2) (hpl : path.length ≤ 1000) :
    Calls Try.prog 15 #[.pointer (some ⟨fb, 0, none⟩), .agg #[.int .i64 fn, .int .i64 at_, .int .i64 st, .int .i64 ki, .slice A2 path.length c2, .int .i64 r0, .int .i64 r1, .int .i64 r2, .int .i64 r3, .int .i64 r4, .int .i64 r5, .int .i64 r6, .int .i64 r7, .int .i64 h0, .int .i64 h1, .int .i64 h2, .int .i64 h3]] w fun e w' => e = .returned (.bool true) ∧ Below w.heap.size w w' := by
  obtain ⟨W, hW⟩ : ∃ W, W = w.alloc (.cells #[.int .i64 fn, .int .i64 at_, .int .i64 st, .int .i64 ki, .slice A2 path.length c2, .int .i64 r0, .int .i64 r1, .int .i64 r2, .int .i64 r3, .int .i64 r4, .int .i64 r5, .int .i64 r6, .int .i64 r7, .int .i64 h0, .int .i64 h1, .int .i64 h2, .int .i64 h3] 27) := ⟨_, rfl⟩
  have hb : Below w.heap.size w W := by rw [hW]; exact (Below.refl w.heap.size w).alloc (Nat.le_refl _) _
  have hx : W.heap[w.heap.size]? = some (.cells #[.int .i64 fn, .int .i64 at_, .int .i64 st, .int .i64 ki, .slice A2 path.length c2, .int .i64 r0, .int .i64 r1, .int .i64 r2, .int .i64 r3, .int .i64 r4, .int .i64 r5, .int .i64 r6, .int .i64 r7, .int .i64 h0, .int .i64 h1, .int .i64 h2, .int .i64 h3] 27 (0, 0)) := by rw [hW]; exact alloc_blk w _
  have hL2 := hL.below hb
  have hn : W.heap[fb]? = some (.cells #[.int .i64 fn, .int .i64 at_, .int .i64 st, .int .i64 ki, .slice Ap path.length cp, .int .i64 r0, .int .i64 r1, .int .i64 r2, .int .i64 r3, .int .i64 r4, .int .i64 r5, .int .i64 r6, .int .i64 r7, .int .i64 h0, .int .i64 h1, .int .i64 h2, .int .i64 h3] 62 (0, 0)) := hL2.fr.node
  have HB := Aside0.mk hb
  have HW := Aside0.mk hW
  have HP := Aside0.mk (And.intro hL2.pC (And.intro hL2.pc (And.intro (Kd.C_below hC hb) (And.intro hc (show path.length ≤ 4611686018427387904 by omega)))))
  have x0 := blk_cell hx 0
  have x1 := blk_cell hx 1
  have x2 := blk_cell hx 2
  have x3 := blk_cell hx 3
  have x4 := blk_cell hx 4
  have x5 := blk_cell hx 5
  have x6 := blk_cell hx 6
  have x7 := blk_cell hx 7
  have x8 := blk_cell hx 8
  have x9 := blk_cell hx 9
  have x10 := blk_cell hx 10
  have x11 := blk_cell hx 11
  have x12 := blk_cell hx 12
  have x13 := blk_cell hx 13
  have x14 := blk_cell hx 14
  have x15 := blk_cell hx 15
  have x16 := blk_cell hx 16
  have y0 := blk_cell hn 0
  have y1 := blk_cell hn 1
  have y2 := blk_cell hn 2
  have y3 := blk_cell hn 3
  have y4 := blk_cell hn 4
  have y5 := blk_cell hn 5
  have y6 := blk_cell hn 6
  have y7 := blk_cell hn 7
  have y8 := blk_cell hn 8
  have y9 := blk_cell hn 9
  have y10 := blk_cell hn 10
  have y11 := blk_cell hn 11
  have y12 := blk_cell hn 12
  have y13 := blk_cell hn 13
  have y14 := blk_cell hn 14
  have y15 := blk_cell hn 15
  have y16 := blk_cell hn 16
  clear hL hC hc hpl hW hb hx hL2 hn
  have hq8 := eq_array 8 Try.underlying24 [r0, r1, r2, r3, r4, r5, r6, r7] rfl
  have hq4 := eq_arrayI 4 Try.underlying25 [h0, h1, h2, h3] rfl
  simp only [List.map_cons, List.map_nil] at hq8 hq4
  go_enter Try.func15, Try.ntmps15
  go_upto_region 1 with (fail)
  rw [← HW.out]
  go_quiet (first | (go_at_call 24; refine (cmp_is Ap cp path A2 c2 path _ (cmpP_self path) ?_ HP.out.2.1 ?_ HP.out.2.2.2.1 HP.out.2.2.2.2).mono ?_; (repeat (first | exact HP.out.1 | exact HP.out.2.2.1 | (with_reducible refine Kd.C_drewN ?_ _) | (with_reducible refine Kd.C_drew ?_))); rintro e w' ⟨rfl, ⟨nd, rfl⟩⟩; (try first | exact ⟨rfl, _, World.drewN_drewN _ _ _⟩ | exact ⟨rfl, _, Eq.trans (World.drewN_drewN _ _ _) (congrArg (World.drewN _) (Nat.add_assoc _ _ _))⟩)))
  go_wp2_with fail
  go_ret
  exact ⟨rfl, HB.out.trans ((pw_below_drewN (Below.refl W.heap.size W) nq).mono HB.out.size)⟩
set_option maxRecDepth 100000 in
set_option maxHeartbeats 8000000 in
theorem given_any (fn at_ st ki : Int) (path : List Int) (r0 r1 r2 r3 r4 r5 r6 r7 h0 h1 h2 h3 : Int) (A2 : Option Addr) (c2 : Nat) (w : World)
    (hC : (Kd.int .i64).C w A2 path.length path) (hc : path.length ≤ c2) (hpl : path.length ≤ 1000) (hst : -9223372036854775808 ≤ st) :
    Calls Try.prog 10 #[.agg #[.int .i64 fn, .int .i64 at_, .int .i64 st, .int .i64 ki, .slice A2 path.length c2, .int .i64 r0, .int .i64 r1, .int .i64 r2, .int .i64 r3, .int .i64 r4, .int .i64 r5, .int .i64 r6, .int .i64 r7, .int .i64 h0, .int .i64 h1, .int .i64 h2, .int .i64 h3]] w
      (NewP ⟨fn, at_, st, ki, path, [r0, r1, r2, r3, r4, r5, r6, r7], [h0, h1, h2, h3]⟩ w) := by
  obtain ⟨W, hW⟩ : ∃ W, W = w.alloc (.cells #[.int .i64 fn, .int .i64 at_, .int .i64 st, .int .i64 ki, .slice A2 path.length c2, .int .i64 r0, .int .i64 r1, .int .i64 r2, .int .i64 r3, .int .i64 r4, .int .i64 r5, .int .i64 r6, .int .i64 r7, .int .i64 h0, .int .i64 h1, .int .i64 h2, .int .i64 h3] 27) := ⟨_, rfl⟩
  have hb : Below w.heap.size w W := by rw [hW]; exact (Below.refl w.heap.size w).alloc (Nat.le_refl _) _
  have hx : W.heap[w.heap.size]? = some (.cells #[.int .i64 fn, .int .i64 at_, .int .i64 st, .int .i64 ki, .slice A2 path.length c2, .int .i64 r0, .int .i64 r1, .int .i64 r2, .int .i64 r3, .int .i64 r4, .int .i64 r5, .int .i64 r6, .int .i64 r7, .int .i64 h0, .int .i64 h1, .int .i64 h2, .int .i64 h3] 27 (0, 0)) := by rw [hW]; exact alloc_blk w _
  have HB := Aside0.mk hb
  have HX := Aside0.mk hx
  have HW := Aside0.mk hW
  have HP := Aside0.mk (And.intro (Kd.C_below hC hb) (And.intro hc hpl))
  clear hC hc hpl hW hb hx
  go_enter Try.func10, Try.ntmps10
  go_upto_region 1 with (fail)
  rw [← HW.out]
  refine wp_region_T (fun w' => Below W.heap.size W w') [] (.takes [0, 1, 2, 3, 4, 5, 6, 7, 9, 10, 12, 13, 14, 15] (.op 8 (.op 11 (.takes [16] (.op 17 (.op 18 .done)))))) (by kernel_rfl) (by kernel_rfl) (by kernel_rfl) (by kernel_rfl) (panic_via (P := Try.prog) (fn := Try.f10) (R := NewP ⟨fn, at_, st, ki, path, [r0, r1, r2, r3, r4, r5, r6, r7], [h0, h1, h2, h3]⟩ w) (fun _ _ _ => rfl)) ?_
  have hs : Below W.heap.size W W.drew := (Below.refl _ _).drew
  simp only [Turns.takes]
  repeat (
    (first
      | (refine runT_take (v := ?_) (by rfl) (by rfl) (fun w' hS => ?_) hs ?_
         rotate_left
         · (have hX := (hS.block _ (blk_lt HX.out)).trans HX.out; have d0 := blk_cell hX 0; have d1 := blk_cell hX 1; have d2 := blk_cell hX 2; have d3 := blk_cell hX 3; have d4 := blk_cell hX 4; have d5 := blk_cell hX 5; have d6 := blk_cell hX 6; have d7 := blk_cell hX 7; have d8 := blk_cell hX 8; have d9 := blk_cell hX 9; have d10 := blk_cell hX 10; have d11 := blk_cell hX 11; have d12 := blk_cell hX 12; have d13 := blk_cell hX 13; have d14 := blk_cell hX 14; have d15 := blk_cell hX 15; have d16 := blk_cell hX 16; go_simp; exact rfl))
      | refine runT_skip (by rfl) (by rfl) hs ?_)
    (try simp only [Act.put, List.setIfInBounds_toArray, List.set_cons_zero, List.set_cons_succ]))
  refine runT_op (by rfl) (by rfl) (fun K hK => ?_)
  go_simp
  obtain ⟨W1, hW1⟩ : ∃ W1, W1 = (W.alloc (.cells #[] 3)).drew := ⟨_, rfl⟩
  rw [← hW1]
  have hs1 : Below W.heap.size W W1 := by rw [hW1]; exact ((Below.refl W.heap.size W).alloc (Nat.le_refl _) _).drew
  have hnew : (Kd.int .i64).R 3 W1 W.heap.size (fun _ => True) (.slice (some ⟨W.heap.size, 0, none⟩) 0 0) [] := by
    rw [hW1]
    refine Kd.R_drew (⟨fun _ _ => trivial, [], ⟨rfl, .inr ⟨W.heap.size, 0, #[], rfl, Nat.le_refl _, alloc_blk _ _, Nat.le_refl _, by decide, rfl, rfl⟩⟩, Reps.none _ _⟩)
  refine hK _ _ hs1 ?_
  clear hK K hs hW1
  (try simp only [Act.put, List.setIfInBounds_toArray, List.set_cons_zero, List.set_cons_succ])
  refine runT_op (by rfl) (by rfl) (fun K hK => ?_)
  refine wp_append_nums .i64 W.heap.size rfl (.tmp 11) (.tmp 13) 23 3 8 rfl Try.underlying23 infoC3 (by omega) _ [] path _ _ _ rfl rfl hnew (Kd.C_below HP.out.1 hs1) hs1.size (by have := HP.out.2.2; simp only [List.length_nil]; omega) ?_
  intro v1 w1 hR hb1 _ _
  have hs := hs1.trans hb1
  refine hK _ _ hs ?_
  rw [List.nil_append] at hR
  obtain ⟨A', c', rfl⟩ := Kd.R_slice hR
  clear hK K hnew hb1 hs1
  (try simp only [Act.put, List.setIfInBounds_toArray, List.set_cons_zero, List.set_cons_succ])
  repeat (
    (first
      | (refine runT_take (v := ?_) (by rfl) (by rfl) (fun w' hS => ?_) hs ?_
         rotate_left
         · (skip; go_simp; exact rfl))
      | refine runT_skip (by rfl) (by rfl) hs ?_)
    (try simp only [Act.put, List.setIfInBounds_toArray, List.set_cons_zero, List.set_cons_succ]))
  refine runT_op (by rfl) (by rfl) (fun K hK => ?_)
  go_simp
  obtain ⟨fb, hfb⟩ : ∃ fb, fb = w1.heap.size := ⟨_, rfl⟩
  rw [← hfb]
  obtain ⟨W2, hW2⟩ : ∃ W2, W2 = w1.alloc (.cells #[.int .i64 fn, .int .i64 at_, .int .i64 st, .int .i64 ki, .slice A' path.length c', .int .i64 r0, .int .i64 r1, .int .i64 r2, .int .i64 r3, .int .i64 r4, .int .i64 r5, .int .i64 r6, .int .i64 r7, .int .i64 h0, .int .i64 h1, .int .i64 h2, .int .i64 h3] 62) := ⟨_, rfl⟩
  rw [← hW2]
  have hb2 : Below w1.heap.size w1 W2 := by rw [hW2]; exact (Below.refl w1.heap.size w1).alloc (Nat.le_refl _) _
  have hn2 : W2.heap[fb]? = some (.cells (frcells ⟨fn, at_, st, ki, path, [r0, r1, r2, r3, r4, r5, r6, r7], [h0, h1, h2, h3]⟩ (.slice A' path.length c')).toArray 62 (0, 0)) := by rw [hW2, hfb]; exact alloc_blk w1 _
  have hs2 := hs.trans (hb2.mono hs.size)
  refine hK _ _ hs2 ?_
  have hwt : w.heap.size ≤ fb := by rw [hfb]; exact Nat.le_trans HB.out.size hs.size
  have hq := Kd.R_reads' hR
  have hown := R_new hR
  have hlt : ∀ ad, A' = some ad → path ≠ [] → ad.block < w1.heap.size := fun ad e hne => by
    obtain ⟨g, cp', hv, _⟩ := Kd.R_form hR (List.length_pos_iff.2 hne)
    injection hv with hA _ _
    rw [hA] at e; cases e
    rw [hA] at hR
    exact (nums_own hR g rfl).2.2
  have hnil : A' = none → c' = 0 := fun e => by
    subst e
    obtain ⟨_, inner, ⟨h1, h2⟩, h3, h4⟩ := hR
    rcases h2 with h2 | ⟨g, cap, cur, e, _⟩
    · injection h2.1
    · cases e
  have HPP := Aside0.mk (And.intro (Kd.C_below hq.2.2 hb2) (And.intro hq.2.1 (And.intro hnil (show path = [] ∨ ∃ ad, A' = some ad ∧ w.heap.size ≤ ad.block ∧ ad.block < fb from by
    by_cases hpe : path = []
    · exact .inl hpe
    · rcases hown with e | ⟨ad, e1, e2⟩
      · exact absurd e hpe
      · exact .inr ⟨ad, e1, Nat.le_trans HB.out.size e2, by have := hlt ad e1 hpe; omega⟩))))
  have HS2 := Aside0.mk hs2
  have H2 := Aside0.mk (And.intro (HB.out.trans (hs2.mono HB.out.size)) (And.intro hn2 hwt))
  clear hK K hs hs2 hb2 hn2 hwt hW2 hfb hq hown hlt hnil hR
  (try simp only [Act.put, List.setIfInBounds_toArray, List.set_cons_zero, List.set_cons_succ])
  refine runT_op (by rfl) (by rfl) (fun K hK => ?_)
  go_simp
  refine hK _ _ HS2.out ?_
  clear hK K
  refine runT_done ?_
  go_wp2_with fail
  go_ret
  exact ⟨fb, A', c', rfl, H2.out.2.2, ⟨H2.out.2.1, rfl, rfl⟩, H2.out.1, HPP.out.2.1, HPP.out.2.2.1, HPP.out.2.2.2, HPP.out.1⟩
end Go.Proofs.Ytcciejcpijlkfaa.H

set_option linter.unusedVariables false
set_option linter.unusedSimpArgs false
namespace Go.Proofs.Ytcciejcpijlkfaa.H
open Go.RowKit Go.Hay Go.Proofs.YtcciejcpijlkfaaW.PrintWords Go.Proofs.YtcciejcpijlkfaaW.PrintLast Go.Proofs.YtcciejcpijlkfaaW.PrintMore
theorem light_any (Ap : Option Addr) (cp : Nat) (P : List S52) (w : World) (hP : k52.C w Ap P.length P) (hcp : P.length ≤ cp) :
    ∃ b : Bool, (b = true → P.length ≤ 20 ∧ ∀ f ∈ P, f.f1.length ≤ 70) ∧ Calls Try.prog 9 #[.slice Ap P.length cp] w fun e w' => e = .returned (.bool b) ∧ Below w.heap.size w w' := by
  obtain ⟨b, ⟨K, hK⟩, h⟩ := light_ev P
  exact ⟨b, h, (haymowlaw12_light.calls K Ap cp P b w hP hcp (hK K (Nat.le_refl _))).mono fun e w' hp => ⟨hp.1, hp.2.below⟩⟩
/-- a document's program as_ the program's: new, and read in whatever world comes behind that leaves it alone. -/
theorem of_anyK (Ap : Option Addr) (cp : Nat) (P : List S52) (w : World) (hP : k52.C w Ap P.length P) (hcp : P.length ≤ cp) (hl : P.length ≤ 20) (hf : ∀ f ∈ P, f.f1.length ≤ 70) :
    Calls Try.prog 12 #[.slice Ap P.length cp] w fun e w' => Below w.heap.size w w' ∧ ∃ A c, e = .returned (.slice A P.length c) ∧ P.length ≤ c ∧ ∀ (S : Nat → Prop) w2, (∀ q, S q → q < w.heap.size) → Keep S w' w2 → k68.C w2 A (P.map ofF).length (P.map ofF) := by
  obtain ⟨K, hK⟩ := of_ev P (by omega) (fun f h => by have := hf f h; omega)
  refine (haymowlaw12_of.calls K Ap cp P _ w hP hcp (hK K (Nat.le_refl _))).mono ?_
  rintro e w' ⟨v, rfl, hS, hb⟩
  obtain ⟨A, c, rfl⟩ := Kd.R_slice (Kd.S_R hS)
  have hq := Kd.R_reads' (Kd.S_R hS)
  have hq1 := hq.2.1
  rw [List.length_map] at hq1
  refine ⟨hb, A, c, ?_, hq1, fun S w2 hSq hk => ?_⟩
  · rw [List.length_map]
  · have h2 := Kd.S_step (w1 := w2) (Kd.S_bound hS) (fun k hk1 hk2 => hk.block k hk2 (fun hs => by have := hSq k hs; have := hk1.2.1; omega))
    exact (Kd.R_reads' (Kd.S_R h2)).2.2
end Go.Proofs.Ytcciejcpijlkfaa.H

set_option linter.unusedVariables false
set_option linter.unusedSimpArgs false
namespace Go.Proofs.Ytcciejcpijlkfaa.H
open Go.RowKit Go.Hay Go.Proofs.YtcciejcpijlkfaaW.PrintWords Go.Proofs.YtcciejcpijlkfaaW.PrintLast Go.Proofs.YtcciejcpijlkfaaW.PrintMore
theorem lt_trueF {i k : Nat} (h : i < k) : ((i : Int) < (k : Nat)) = True := eq_true (by omega)
theorem up_ltF {k i : Nat} (h : i < k) : k - (intOf (.int .i64 ((i : Int) + 1))).toNat < k - (intOf (.int .i64 (i : Int))).toNat := by simp [intOf]; omega
/-- behind an Exec whose effect is stored at eb. -/
structure AfterX (w W : World) (fb eb : Nat) (r : Ef × Int × Fr) (Ap : Option Addr) (cp : Nat) (Aa : Option Addr) (ca : Nat) (Ab : Option Addr) (cb : Nat) : Prop where
  keep : Keep (fun q => q = fb) w W
  lf : LF fb r.2.2 Ap cp W
  box : W.heap[eb]? = some (effObj r.1 Aa ca Ab cb)
  ef : EfC w.heap.size W r.1 Aa ca Ab cb
  new : w.heap.size ≤ eb
/-- the box was made behind Exec. -/
theorem AfterX.late {w w1 W : World} {fb : Nat} {r : Ef × Int × Fr} {Ap : Option Addr} {cp : Nat} {Aa : Option Addr} {ca : Nat} {Ab : Option Addr} {cb : Nat} (hk : Keep (fun q => q = fb) w w1) (hlf : LF fb r.2.2 Ap cp w1) (hE : EfC w.heap.size w1 r.1 Aa ca Ab cb) (eb : Nat) (heb : eb = w1.heap.size) (hW : W = storeE (w1.alloc zEff) eb r.1 Aa ca Ab cb) : AfterX w W fb eb r Ap cp Aa ca Ab cb := by
  have ha := (Below.refl w1.heap.size w1).alloc (Nat.le_refl _) zEff
  have hx : (w1.alloc zEff).heap[eb]? = some zEff := by rw [heb]; exact alloc_blk w1 _
  obtain ⟨h1, h2⟩ := storeE_at hx r.1 Aa ca Ab cb
  rw [← hW] at h1 h2
  have hfl := hlf.fr.lt
  have hb : Below w1.heap.size w1 W := ha.trans (h2.below (B := w1.heap.size) ha.size (fun q hq e => by omega))
  exact ⟨hk.then (Keep.of_below hb (fun q => q = fb)) (fun q hq e => e), hlf.below hb, h1, hE.below hb, by have := hk.size; omega⟩
/-- the box was made ahead of it. -/
theorem AfterX.early {w w0 w1 W : World} {fb : Nat} {r : Ef × Int × Fr} {Ap : Option Addr} {cp : Nat} {Aa : Option Addr} {ca : Nat} {Ab : Option Addr} {cb : Nat} (hb0 : Below w.heap.size w w0) {eb : Nat} (hx : w0.heap[eb]? = some zEff) (hn : w.heap.size ≤ eb) (hf : fb < w.heap.size) (hk : Keep (fun q => q = fb) w0 w1) (hlf : LF fb r.2.2 Ap cp w1) (hp : r.2.2.path = [] ∨ ∃ ad, Ap = some ad ∧ ad.block < w.heap.size) (hE : EfC w0.heap.size w1 r.1 Aa ca Ab cb) (hW : W = storeE w1 eb r.1 Aa ca Ab cb) : AfterX w W fb eb r Ap cp Aa ca Ab cb := by
  have hx1 : w1.heap[eb]? = some zEff := hk.blk hx (by omega)
  obtain ⟨h1, h2⟩ := storeE_at hx1 r.1 Aa ca Ab cb
  rw [← hW] at h1 h2
  have hlt := blk_lt hx
  have hE2 := hE.keep h2 (fun q hq hl e => by omega)
  have hC : (Kd.int .i64).C W Ap r.2.2.path.length r.2.2.path := by
    by_cases hz : r.2.2.path = []
    · rw [hz]; exact ⟨rfl, by simp, fun hp => absurd hp (Nat.lt_irrefl 0)⟩
    · rcases hp with e | ⟨ad, e, hlt⟩
      · exact absurd e hz
      · subst e
        refine C_at (fun h => h) hlf.pC (fun ad' e => ?_)
        cases e
        exact h2.block _ (by have := hb0.size; have := hk.size; omega) (by omega)
  exact ⟨((Keep.of_below hb0 (fun q => q = fb)).then hk (fun q hq e => e)).then h2 (fun q hq e => by omega), ⟨hlf.fr.keep h2 (by omega), hlf.pc, hlf.pn, hlf.pne, hC, hlf.st⟩, h1, ⟨hE2.args, hE2.argsC, hE2.path, hE2.pathC, hE2.newA.imp id (fun ⟨ad, e1, e2⟩ => ⟨ad, e1, by have := hb0.size; omega⟩), hE2.newP.imp id (fun ⟨ad, e1, e2⟩ => ⟨ad, e1, by have := hb0.size; omega⟩)⟩, hn⟩
theorem EfC.less {B B' : Nat} {w : World} {e : Ef} {Aa : Option Addr} {ca : Nat} {Ab : Option Addr} {cb : Nat} (h : EfC B' w e Aa ca Ab cb) (hb : B ≤ B') : EfC B w e Aa ca Ab cb :=
  ⟨h.args, h.argsC, h.path, h.pathC, h.newA.imp id (fun ⟨ad, e1, e2⟩ => ⟨ad, e1, by omega⟩), h.newP.imp id (fun ⟨ad, e1, e2⟩ => ⟨ad, e1, by omega⟩)⟩
theorem exec_of {fb : Nat} {F : Fr} {Ap : Option Addr} {cp : Nat} {w : World} {A : Option Addr} {c : Nat} {P : List S52} {b d : Int} (hC : ProgK fb w A (P.map ofF)) (hc : P.length ≤ c) (h : LF fb F Ap cp w) :
    Calls Try.prog 11 #[.slice A P.length c, .agg #[.int .i64 b, .int .i64 d], .pointer (some ⟨fb, 0, none⟩)] w fun x w' =>
      ∃ Aa ca Ab cb, x = .returned (.tuple #[efV (execP (P.map ofF) b d F).1 Aa ca Ab cb, .int .i64 (execP (P.map ofF) b d F).2.1]) ∧ EfC w.heap.size w' (execP (P.map ofF) b d F).1 Aa ca Ab cb ∧ LF fb (execP (P.map ofF) b d F).2.2 Ap cp w' ∧ Keep (fun q => q = fb) w w' := by
  have := exec_any (b := b) (d := d) hC (by rw [List.length_map]; exact hc) h
  rwa [List.length_map] at this
/-- ways that meet again: the frame is found where the first one ends. -/
theorem with_actX {G : Prop} {F : Nat → Option Addr → Nat → Option Addr → Nat → Option Addr → Nat → World → Prop} {K : Act → World → Prop} (act : Nat → Option Addr → Nat → Option Addr → Nat → Option Addr → Nat → Act)
    (H : (∀ eb A c Aa ca Ab cb W, F eb A c Aa ca Ab cb W → K (act eb A c Aa ca Ab cb) W) → G) (h : ∀ eb A c Aa ca Ab cb W, F eb A c Aa ca Ab cb W → K (act eb A c Aa ca Ab cb) W) : G := H h
end Go.Proofs.Ytcciejcpijlkfaa.H

