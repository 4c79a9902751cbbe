/- What the proof of FrameBegins stands on, part 15: this session's own texts and the words that the kit's print lays, those that are used. -/
import Derived.Test.YtcciejcpijlkfaaZFrameBegins14
import Derived.ChangeKeysEq
import Derived.BigQuiet
-- made by this session's gen.py over the kit's print.py; not trusted: Lean checks it
namespace Go.Proofs.Ytcciejcpijlkfaa.H
open Go.RowKit Go.Proofs.YtcciejcpijlkfaaW.PrintWords Go.Proofs.YtcciejcpijlkfaaW.PrintLast Go.Proofs.YtcciejcpijlkfaaW.PrintMore
attribute [local go_sem] max2_int min2_int max_two min_two max_three min_three max_four min_four   -- for this text's walks alone
set_option linter.unusedVariables false
set_option linter.unusedSimpArgs false

/-! ### haymowlaw12_of: function 12 -/
mutual
def haymowlaw12_of.l0 : Nat → List (S52) → List (S68) → Int → Option ((List (S68)))
  | 0, _, _, _ => none
  | k + 1, x0, x3, x4 => if x4 < (x0.length : Int) then (if 0 ≤ x4 then (haymowlaw12_of.l1 k x0 x3 x4 0 ((rd_T52 x0 x4).f0) ([] : List (S65))) else (none)) else (some x3)
def haymowlaw12_of.l1 : Nat → List (S52) → List (S68) → Int → Int → Int → List (S65) → Option ((List (S68)))
  | 0, _, _, _, _, _, _ => none
  | k + 1, x0, x3, x4, x6, x130000, x130001 => if 0 ≤ x4 then (if x4 < (x0.length : Int) then (if x6 < (((rd_T52 x0 x4).f1).length : Int) then (if 0 ≤ x6 then (if x130001.length < 3518437208883 then (haymowlaw12_of.l1 k x0 x3 x4 (wrap64 (x6 + 1)) x130000 (x130001 ++ [(⟨(rd_T61 ((rd_T52 x0 x4).f1) x6).f0, (rd_T61 ((rd_T52 x0 x4).f1) x6).f1, (rd_T61 ((rd_T52 x0 x4).f1) x6).f2, (rd_T61 ((rd_T52 x0 x4).f1) x6).f3, (rd_T61 ((rd_T52 x0 x4).f1) x6).f4⟩ : S65)])) else (none)) else (none)) else (if x3.length < 4398046511104 then (haymowlaw12_of.l0 k x0 (x3 ++ [(⟨x130000, x130001⟩ : S68)]) (wrap64 (x4 + 1))) else (none))) else (none)) else (none)
end
def haymowlaw12_of.f (k : Nat) (l0 : List (S52)) : Option ((List (S68))) := haymowlaw12_of.l0 k l0 ([] : List (S68)) 0
theorem haymowlaw12_of.mono_l : ∀ k, (∀ y0 y1 y2, LeO (haymowlaw12_of.l0 k y0 y1 y2) (haymowlaw12_of.l0 (k + 1) y0 y1 y2)) ∧ (∀ y0 y1 y2 y3 y4 y5, LeO (haymowlaw12_of.l1 k y0 y1 y2 y3 y4 y5) (haymowlaw12_of.l1 (k + 1) y0 y1 y2 y3 y4 y5))
  | 0 => ⟨fun _ _ _ r h => by simp [haymowlaw12_of.l0] at h, fun _ _ _ _ _ _ r h => by simp [haymowlaw12_of.l1] at h⟩
  | k + 1 => by
    obtain ⟨ih0, ih1⟩ := haymowlaw12_of.mono_l k
    refine ⟨?_, ?_⟩
    · intro y0 y1 y2
      unfold haymowlaw12_of.l0
      repeat' first
      | (with_reducible exact ih0 _ _ _)
      | (with_reducible exact ih1 _ _ _ _ _ _)
      | (with_reducible exact LeO.refl _)
      | (with_reducible exact LeO.none _)
      | (with_reducible refine LeO.ite ?_ ?_)
      | (with_reducible refine LeO.bind ?_ (fun _ => ?_))
      | exact ih0 _ _ _
      | exact ih1 _ _ _ _ _ _
      | exact LeO.none _
      | refine LeO.ite ?_ ?_
      | refine LeO.bind ?_ (fun _ => ?_)
    · intro y0 y1 y2 y3 y4 y5
      unfold haymowlaw12_of.l1
      repeat' first
      | (with_reducible exact ih0 _ _ _)
      | (with_reducible exact ih1 _ _ _ _ _ _)
      | (with_reducible exact LeO.refl _)
      | (with_reducible exact LeO.none _)
      | (with_reducible refine LeO.ite ?_ ?_)
      | (with_reducible refine LeO.bind ?_ (fun _ => ?_))
      | exact ih0 _ _ _
      | exact ih1 _ _ _ _ _ _
      | exact LeO.none _
      | refine LeO.ite ?_ ?_
      | refine LeO.bind ?_ (fun _ => ?_)
theorem haymowlaw12_of.mono : ∀ a0 k, LeO (haymowlaw12_of.f k a0) (haymowlaw12_of.f (k + 1) a0) := by
  intro a0 k
  obtain ⟨ih0, ih1⟩ := haymowlaw12_of.mono_l k
  unfold haymowlaw12_of.f
  repeat' first
      | (with_reducible exact ih0 _ _ _)
      | (with_reducible exact ih1 _ _ _ _ _ _)
      | (with_reducible exact LeO.refl _)
      | (with_reducible exact LeO.none _)
      | (with_reducible refine LeO.ite ?_ ?_)
      | (with_reducible refine LeO.bind ?_ (fun _ => ?_))
      | exact ih0 _ _ _
      | exact ih1 _ _ _ _ _ _
      | exact LeO.none _
      | refine LeO.ite ?_ ?_
      | refine LeO.bind ?_ (fun _ => ?_)
set_option maxHeartbeats 8000000 in
set_option maxRecDepth 100000 in
theorem haymowlaw12_of.calls (k : Nat) (A0 : Option Addr) (c0 : Nat) (l0 : List (S52)) (r : List (S68)) (w : World) (hr0 : Kd.C k52 w A0 l0.length l0) (hc0 : l0.length ≤ c0) (h : haymowlaw12_of.f k l0 = some r) :
    Calls Try.prog 12 #[.slice A0 l0.length c0] w fun e w' => ∃ v0_ : Value, e = .returned (v0_) ∧ Kd.S k68 68 w' w.heap.size (fun _ => True) v0_ r ∧ Below w.heap.size w w' := by
  have hu68 := Try.underlying68
  have hu61 := Try.underlying61
  have hu65 := Try.underlying65
  have HR0 := Aside0.mk hr0
  have HC0 := Aside0.mk hc0
  clear hr0 hc0
  have HB := Aside0.mk (Below.refl w.heap.size w)
  have H : (haymowlaw12_of.l0 k l0 ([] : List (S68)) 0) = some r := h
  clear h
  have H' := Aside0.mk H
  clear H
  go_enter Try.func12, Try.ntmps12
  go_wp2
  go_loopg [3, 4] k (fun kq v3 v4 w' => ∃ (x3_1 : List (S68)) (x4_1 : Int), v4 = .int .i64 x4_1 ∧ Aside0 (haymowlaw12_of.l0 kq l0 x3_1 x4_1 = some r) ∧ Aside0 (kq ≤ k) ∧ Aside0 (Kd.S k68 68 w' w.heap.size (fun _ => True) v3 x3_1) ∧ Aside0 (Below w.heap.size w w'))
  case atStart => exact ⟨(([] : List (S68))), (0), (by first | rfl | (simp; done) | (simp [*]; done)), H', ⟨Nat.le_refl _⟩, ⟨by first | exact Kd.S_nil _ _ _ _ _ | exact Kd.N_nil _ _ _ _ _ | exact Kd.V_nil _ _ _ _ _ | exact Kd.Q_nil _ _ _ _ _ | exact Kd.R_nil _ _ _ _ _⟩, ⟨by repeat (first | (with_reducible first | exact HB.out | apply below_alloc | apply pw_below_drewN | apply below_drew1) | exact HB.out)⟩⟩
  case round =>
    clear H'
    try clear c1
    obtain ⟨x3_1, x4_1, rfl, HA, HK1, HO_3, HB⟩ := hrel
    cases gk with
    | zero => exact absurd HA.out (by simp [haymowlaw12_of.l0])
    | succ k1 =>
      have H := HA.out
      clear HA
      simp only [haymowlaw12_of.l0] at H
      by_cases c2 : x4_1 < (l0.length : Int)
      · rw [if_pos c2] at H
        have c2b0 : decide (x4_1 < (l0.length : Int)) = true := decide_eq_true c2
        clear c2
        by_cases c3 : 0 ≤ x4_1
        · rw [if_pos c3] at H
          have c3b0 : decide (0 ≤ x4_1) = true := decide_eq_true c3
          clear c3
          have H' := Aside0.mk H
          clear H
          have p128 : 0 ≤ (x4_1 : Int) := of_decide_eq_true (by first | (with_reducible assumption) | assumption)
          have q128 : x4_1 < (l0.length : Int) := of_decide_eq_true (by first | (with_reducible assumption) | assumption)
          obtain ⟨ad128, A128_1, c128_1, e128, hx128_0, hx128_1, hl128_1, hi128_1⟩ := at_T52 HR0.out x4_1 p128 q128
          cases e128
          replace hx128_0 := (HB.out.cell (World.block_lt_of_cell? w _ hx128_0)).trans hx128_0
          replace hx128_1 := (HB.out.cell (World.block_lt_of_cell? w _ hx128_1)).trans hx128_1
          have HR128_1 := Aside0.mk hi128_1
          have HC128_1 := Aside0.mk hl128_1
          clear hi128_1 hl128_1
          replace p128 := eq_true p128
          replace q128 := eq_true q128
          go_wp2_with (first | ((with_reducible refine gate_dst (N := 5) rfl ?_); refine box_event ?hg (N := 5) ?hd (cs := #[.int .i64 0, .slice none 0 0]) (t := 68) ?hr ?_; (case hd => rfl); (case hg => rfl); (case hr => first | (go_simp; done) | (go_simp; rfl)); intro gb129 hg w4 hbox hb; have n0_ := Aside0.mk (Kd.S_below (Kd.S_elderB (by (with_reducible repeat (first | apply Kd.S_alloc | apply Kd.S_drewN | apply Kd.S_drew)); exact HO_3.out) gb129 (Nat.le_of_eq hg.symm)) hb); have n1_ := Aside0.mk (below_step (by repeat (first | (with_reducible first | exact HB.out | apply below_alloc | apply pw_below_drewN | apply below_drew1) | exact HB.out)) hb); have n2_ := Aside0.mk (hbox); have n3_ := Aside0.mk ((by rw [hg]; exact (below_size (by repeat (first | (with_reducible first | exact HB.out | apply below_alloc | apply pw_below_drewN | apply below_drew1) | exact HB.out))) : w.heap.size ≤ gb129)); have n4_ := Aside0.mk ((by rw [hg]; exact (below_size (by repeat (first | (with_reducible first | exact HB.out | apply below_alloc | apply pw_below_drewN | apply below_drew1) | exact HB.out))) : w.heap.size ≤ gb129)); clear HO_3; clear HB; have HO_3 := n0_; have HB := n1_; have BK129 := n2_; have GW129 := n3_; have GE129 := n4_; clear n0_ n1_ n2_ n3_ n4_; clear hb hbox hg; have hcz5_0 : w4.cell? ⟨gb129, 0, none⟩ = some (.int .i64 0) := (blk_cell BK129.out 0).trans rfl; have hcz5_1 : w4.cell? ⟨gb129, 1, none⟩ = some (.slice none 0 0) := (blk_cell BK129.out 1).trans rfl; have hfz5_0 := blk_frozen BK129.out 0; have hfz5_1 := blk_frozen BK129.out 1))
          go_loopg [6] k1 (fun kq v6 w' => ∃ (x6_2 : Int) (x130001_2 : List (S65)) (u130001 : Value), v6 = .int .i64 x6_2 ∧ Aside0 (haymowlaw12_of.l1 kq l0 x3_1 x4_1 x6_2 ((rd_T52 l0 x4_1).f0) x130001_2 = some r) ∧ Aside0 (kq ≤ k1) ∧ Aside0 (Kd.S k68 68 w' w.heap.size (fun k_ => some k_ ≠ (u130001 : Value).ownBlock ∧ k_ ≠ gb129) u3 x3_1) ∧ Aside0 (Kd.R k65 65 w' w.heap.size (fun _ => True) u130001 x130001_2) ∧ Aside0 (w'.heap[gb129]? = some (.cells #[.int .i64 ((rd_T52 l0 x4_1).f0), u130001] 68 (0, 0))) ∧ Aside0 (Below w.heap.size w w'))
          case atStart => exact ⟨(0), (([] : List (S65))), (.slice none 0 0), (by first | rfl | (simp; done) | (simp [*]; done)), H', ⟨Nat.le_refl _⟩, ⟨by (with_reducible repeat (first | apply Kd.S_alloc | apply Kd.S_drewN | apply Kd.S_drew)); exact Kd.S_mono (Kd.S_far (p := ⟨gb129, 1, none⟩) (Kd.S_far (p := ⟨gb129, 0, none⟩) (Kd.S_mono HO_3.out (fun k_ hk => (⟨hk, hk.2⟩ : _ ∧ k_ ≠ gb129))) (fun _ hk => hk.2) (.int .i64 ((rd_T52 l0 x4_1).f0))) (fun _ hk => hk.2) (.slice none 0 0)) (fun _ hk => ⟨(by simp [Value.ownBlock]), hk.1.2⟩)⟩, ⟨by first | exact Kd.R_nil _ _ _ _ _ | exact Kd.N_nil _ _ _ _ _ | exact Kd.V_nil _ _ _ _ _ | exact Kd.Q_nil _ _ _ _ _ | exact Kd.S_nil _ _ _ _ _⟩, ⟨by (with_reducible repeat (first | refine blk_drewN ?_ _ | refine blk_drew ?_ | refine blk_alloc ?_ _)); refine blk_put (cs := #[.int .i64 ((rd_T52 l0 x4_1).f0), .slice none 0 0]) ?_ 1 _ rfl; (with_reducible repeat (first | refine blk_drewN ?_ _ | refine blk_drew ?_ | refine blk_alloc ?_ _)); refine blk_put (cs := #[.int .i64 0, .slice none 0 0]) ?_ 0 _ rfl; (with_reducible repeat (first | refine blk_drewN ?_ _ | refine blk_drew ?_ | refine blk_alloc ?_ _)); exact BK129.out⟩, ⟨by repeat (first | (with_reducible first | exact HB.out | apply below_alloc | apply pw_below_drewN | apply below_drew1 | refine below_set ?_ GE129.out) | exact HB.out)⟩⟩
          case round =>
            clear H'
            try clear c1
            try clear p1
            try clear q1
            try clear hx1
            try clear c2
            try clear c2b0
            try clear p2
            try clear c3
            try clear c3b0
            try clear hcz5_0
            try clear hcz5_1
            try clear hfz5_0
            try clear hfz5_1
            try clear hx128_0
            try clear hx128_1
            try clear p128
            try clear q128
            obtain ⟨x6_2, x130001_2, u130001, rfl, HA, HK2, HO_3, HO_130001, BK129, HB⟩ := hrel
            cases gk with
            | zero => exact absurd HA.out (by simp [haymowlaw12_of.l1])
            | succ k2 =>
              have H := HA.out
              clear HA
              simp only [haymowlaw12_of.l1] at H
              by_cases c6 : 0 ≤ x4_1
              · rw [if_pos c6] at H
                have c6b0 : decide (0 ≤ x4_1) = true := decide_eq_true c6
                clear c6
                by_cases c7 : x4_1 < (l0.length : Int)
                · rw [if_pos c7] at H
                  have c7b0 : decide (x4_1 < (l0.length : Int)) = true := decide_eq_true c7
                  clear c7
                  by_cases c8 : x6_2 < (((rd_T52 l0 x4_1).f1).length : Int)
                  · rw [if_pos c8] at H
                    have c8b0 : decide (x6_2 < (((rd_T52 l0 x4_1).f1).length : Int)) = true := decide_eq_true c8
                    clear c8
                    by_cases c9 : 0 ≤ x6_2
                    · rw [if_pos c9] at H
                      have c9b0 : decide (0 ≤ x6_2) = true := decide_eq_true c9
                      clear c9
                      by_cases c10 : x130001_2.length < 3518437208883
                      · rw [if_pos c10] at H
                        have LMc10 := Aside0.mk c10
                        clear c10
                        obtain ⟨y134, hy134⟩ : ∃ y_ : List (S65), y_ = (x130001_2 ++ [(⟨(rd_T61 ((rd_T52 l0 x4_1).f1) x6_2).f0, (rd_T61 ((rd_T52 l0 x4_1).f1) x6_2).f1, (rd_T61 ((rd_T52 l0 x4_1).f1) x6_2).f2, (rd_T61 ((rd_T52 l0 x4_1).f1) x6_2).f3, (rd_T61 ((rd_T52 l0 x4_1).f1) x6_2).f4⟩ : S65)]) := ⟨_, rfl⟩
                        replace H : (haymowlaw12_of.l1 k2 l0 x3_1 x4_1 (wrap64 (x6_2 + 1)) ((rd_T52 l0 x4_1).f0) y134) = some r := by first | (rw [hy134]; with_reducible exact H) | (have H2_ := (Option.bind_some _ _).symm.trans H; rw [hy134]; with_reducible exact H2_) | (have H2_ := (Option.bind_some _ _).symm.trans H; with_reducible exact H2_) | with_reducible exact H | (rw [hy134]; exact H) | exact H
                        have Ny134 := Aside0.mk hy134
                        clear hy134
                        have H' := Aside0.mk H
                        clear H
                        have p130 : 0 ≤ (x4_1 : Int) := of_decide_eq_true (by first | (with_reducible assumption) | assumption)
                        have q130 : x4_1 < (l0.length : Int) := of_decide_eq_true (by first | (with_reducible assumption) | assumption)
                        obtain ⟨ad130, A130_1, c130_1, e130, hx130_0, hx130_1, hl130_1, hi130_1⟩ := at_T52 HR0.out x4_1 p130 q130
                        obtain rfl : ad128 = ad130 := (by injection e130)
                        replace hx130_0 := (HB.out.cell (World.block_lt_of_cell? w _ hx130_0)).trans hx130_0
                        replace hx130_1 := (HB.out.cell (World.block_lt_of_cell? w _ hx130_1)).trans hx130_1
                        have HR130_1 := Aside0.mk hi130_1
                        have HC130_1 := Aside0.mk hl130_1
                        clear hi130_1 hl130_1
                        replace p130 := eq_true p130
                        replace q130 := eq_true q130
                        have p131 : 0 ≤ (x4_1 : Int) := of_decide_eq_true (by first | (with_reducible assumption) | assumption)
                        have q131 : x4_1 < (l0.length : Int) := of_decide_eq_true (by first | (with_reducible assumption) | assumption)
                        obtain ⟨ad131, A131_1, c131_1, e131, hx131_0, hx131_1, hl131_1, hi131_1⟩ := at_T52 HR0.out x4_1 p131 q131
                        obtain rfl : ad128 = ad131 := (by injection e131)
                        replace hx131_0 := (HB.out.cell (World.block_lt_of_cell? w _ hx131_0)).trans hx131_0
                        replace hx131_1 := (HB.out.cell (World.block_lt_of_cell? w _ hx131_1)).trans hx131_1
                        have HR131_1 := Aside0.mk hi131_1
                        have HC131_1 := Aside0.mk hl131_1
                        clear hi131_1 hl131_1
                        replace p131 := eq_true p131
                        replace q131 := eq_true q131
                        have ea_ := Option.some.inj (hx130_1.symm.trans hx131_1)
                        injection ea_ with ea_ en_ ec_
                        subst ea_
                        subst ec_
                        clear en_
                        have p132 : 0 ≤ (x6_2 : Int) := of_decide_eq_true (by first | (with_reducible assumption) | assumption)
                        have q132 : x6_2 < (((rd_T52 l0 x4_1).f1).length : Int) := of_decide_eq_true (by first | (with_reducible assumption) | assumption)
                        obtain ⟨ad132, e132, hx132_0, hx132_1, hx132_2, hx132_3, hx132_4⟩ := at_T61 HR131_1.out x6_2 p132 q132
                        cases e132
                        replace hx132_0 := (HB.out.cell (World.block_lt_of_cell? w _ hx132_0)).trans hx132_0
                        replace hx132_1 := (HB.out.cell (World.block_lt_of_cell? w _ hx132_1)).trans hx132_1
                        replace hx132_2 := (HB.out.cell (World.block_lt_of_cell? w _ hx132_2)).trans hx132_2
                        replace hx132_3 := (HB.out.cell (World.block_lt_of_cell? w _ hx132_3)).trans hx132_3
                        replace hx132_4 := (HB.out.cell (World.block_lt_of_cell? w _ hx132_4)).trans hx132_4
                        replace p132 := eq_true p132
                        replace q132 := eq_true q132
                        go_wp2_with (first | ((with_reducible refine gate_dst (N := 7) rfl ?_); refine box_event ?hg (N := 7) ?hd (cs := #[.int .i64 0, .int .i64 0, .int .i64 0, .int .i64 0, .int .i64 0]) (t := 61) ?hr ?_; (case hd => rfl); (case hg => rfl); (case hr => first | (go_simp; done) | (go_simp; rfl)); intro gb133 hg w11 hbox hb; have n0_ := Aside0.mk (Kd.S_below (by (with_reducible repeat (first | apply Kd.S_alloc | apply Kd.S_drewN | apply Kd.S_drew)); exact HO_3.out) hb); have n1_ := Aside0.mk (Kd.R_below (by (with_reducible repeat (first | apply Kd.R_alloc | apply Kd.R_drewN | apply Kd.R_drew)); exact HO_130001.out) hb); have n2_ := Aside0.mk (blk_below (g := gb129) (o := .cells #[.int .i64 ((rd_T52 l0 x4_1).f0), u130001] 68 (0, 0)) (by (with_reducible repeat (first | refine blk_drewN ?_ _ | refine blk_drew ?_ | refine blk_alloc ?_ _)); exact BK129.out) hb); have n3_ := Aside0.mk (below_step (by repeat (first | (with_reducible first | exact HB.out | apply below_alloc | apply pw_below_drewN | apply below_drew1 | refine below_set ?_ GE129.out) | exact HB.out)) hb); have n4_ := Aside0.mk (hbox); have n5_ := Aside0.mk ((by rw [hg]; exact (below_size (by repeat (first | (with_reducible first | exact HB.out | apply below_alloc | apply pw_below_drewN | apply below_drew1 | refine below_set ?_ GE129.out) | exact HB.out))) : w.heap.size ≤ gb133)); have n6_ := Aside0.mk ((by rw [hg]; exact (below_size (by repeat (first | (with_reducible first | exact HB.out | apply below_alloc | apply pw_below_drewN | apply below_drew1 | refine below_set ?_ GE129.out) | exact HB.out))) : w.heap.size ≤ gb133)); have n7_ := Aside0.mk ((by rw [hg]; exact Nat.ne_of_lt (blk_lt (g := gb129) (o := .cells #[.int .i64 ((rd_T52 l0 x4_1).f0), u130001] 68 (0, 0)) (by (with_reducible repeat (first | refine blk_drewN ?_ _ | refine blk_drew ?_ | refine blk_alloc ?_ _)); exact BK129.out)) : gb129 ≠ gb133)); have n8_ := Aside0.mk ((by rw [hg]; exact Nat.ne_of_gt (blk_lt (g := gb129) (o := .cells #[.int .i64 ((rd_T52 l0 x4_1).f0), u130001] 68 (0, 0)) (by (with_reducible repeat (first | refine blk_drewN ?_ _ | refine blk_drew ?_ | refine blk_alloc ?_ _)); exact BK129.out)) : gb133 ≠ gb129)); clear HO_3; clear HO_130001; clear BK129; clear HB; have HO_3 := n0_; have HO_130001 := n1_; have BK129 := n2_; have HB := n3_; have BK133 := n4_; have GW133 := n5_; have GE133 := n6_; have NB129_133 := n7_; have NB133_129 := n8_; clear n0_ n1_ n2_ n3_ n4_ n5_ n6_ n7_ n8_; clear hb hbox hg; have hnb12 := NB133_129.out; have hnc12 := NB129_133.out; have hcz13_0 : w11.cell? ⟨gb133, 0, none⟩ = some (.int .i64 0) := (blk_cell BK133.out 0).trans rfl; have hcz13_1 : w11.cell? ⟨gb133, 1, none⟩ = some (.int .i64 0) := (blk_cell BK133.out 1).trans rfl; have hcz13_2 : w11.cell? ⟨gb133, 2, none⟩ = some (.int .i64 0) := (blk_cell BK133.out 2).trans rfl; have hcz13_3 : w11.cell? ⟨gb133, 3, none⟩ = some (.int .i64 0) := (blk_cell BK133.out 3).trans rfl; have hcz13_4 : w11.cell? ⟨gb133, 4, none⟩ = some (.int .i64 0) := (blk_cell BK133.out 4).trans rfl; have hfz13_0 := blk_frozen BK133.out 0; have hfz13_1 := blk_frozen BK133.out 1; have hfz13_2 := blk_frozen BK133.out 2; have hfz13_3 := blk_frozen BK133.out 3; have hfz13_4 := blk_frozen BK133.out 4; have hcz14_0 : w11.cell? ⟨gb129, 0, none⟩ = some (.int .i64 ((rd_T52 l0 x4_1).f0)) := (blk_cell BK129.out 0).trans rfl; have hcz14_1 : w11.cell? ⟨gb129, 1, none⟩ = some (u130001) := (blk_cell BK129.out 1).trans rfl; have hfz14_0 := blk_frozen BK129.out 0; have hfz14_1 := blk_frozen BK129.out 1) | ((with_reducible refine gate_builtin (b := .append) (xs := #[.tmp 39, .tmp 51]) rfl ?_); at_builtin; refine Kd.R_append k65 (w0 := w) w.heap.size rfl (.tmp 39) (.tmp 51) 66 65 (.agg #[(.int .i64 0), (.int .i64 0), (.int .i64 0), (.int .i64 0), (.int .i64 0)]) 40 rfl Try.underlying66 info65 rfl (by decide) (by omega) u130001 x130001_2 (⟨(rd_T61 ((rd_T52 l0 x4_1).f1) x6_2).f0, (rd_T61 ((rd_T52 l0 x4_1).f1) x6_2).f1, (rd_T61 ((rd_T52 l0 x4_1).f1) x6_2).f2, (rd_T61 ((rd_T52 l0 x4_1).f1) x6_2).f3, (rd_T61 ((rd_T52 l0 x4_1).f1) x6_2).f4⟩ : S65) [.int .i64 ((rd_T61 ((rd_T52 l0 x4_1).f1) x6_2).f0), .int .i64 ((rd_T61 ((rd_T52 l0 x4_1).f1) x6_2).f1), .int .i64 ((rd_T61 ((rd_T52 l0 x4_1).f1) x6_2).f2), .int .i64 ((rd_T61 ((rd_T52 l0 x4_1).f1) x6_2).f3), .int .i64 ((rd_T61 ((rd_T52 l0 x4_1).f1) x6_2).f4)] (fun _ => True) (fun _ => False) rfl (by first | (go_simp; done) | (go_simp; rfl)) ?aP (fun _ hk => hk.elim) ?aF ?aO ?aB ?aS ?aL ?_; (case aP => exact k65_mkM _ _ _ (⟨(rd_T61 ((rd_T52 l0 x4_1).f1) x6_2).f0, (rd_T61 ((rd_T52 l0 x4_1).f1) x6_2).f1, (rd_T61 ((rd_T52 l0 x4_1).f1) x6_2).f2, (rd_T61 ((rd_T52 l0 x4_1).f1) x6_2).f3, (rd_T61 ((rd_T52 l0 x4_1).f1) x6_2).f4⟩ : S65)); (case aB => exact (by repeat (first | (with_reducible first | exact HB.out | apply below_alloc | apply pw_below_drewN | apply below_drew1 | refine below_set ?_ GE129.out | refine below_set ?_ GE133.out) | exact HB.out))); (case aF => exact (fun _ _ => trivial)); (case aO => exact (by (with_reducible repeat (first | apply Kd.R_alloc | apply Kd.R_drewN | apply Kd.R_drew)); exact Kd.R_mono (Kd.R_far (p := ⟨gb133, 4, none⟩) (Kd.R_far (p := ⟨gb133, 3, none⟩) (Kd.R_far (p := ⟨gb133, 2, none⟩) (Kd.R_far (p := ⟨gb133, 1, none⟩) (Kd.R_far (p := ⟨gb133, 0, none⟩) (Kd.R_types HO_130001.out BK133.out (by decide)) (fun _ hk => hk.2) (.int .i64 ((rd_T61 ((rd_T52 l0 x4_1).f1) x6_2).f0))) (fun _ hk => hk.2) (.int .i64 ((rd_T61 ((rd_T52 l0 x4_1).f1) x6_2).f1))) (fun _ hk => hk.2) (.int .i64 ((rd_T61 ((rd_T52 l0 x4_1).f1) x6_2).f2))) (fun _ hk => hk.2) (.int .i64 ((rd_T61 ((rd_T52 l0 x4_1).f1) x6_2).f3))) (fun _ hk => hk.2) (.int .i64 ((rd_T61 ((rd_T52 l0 x4_1).f1) x6_2).f4))) (fun _ hk => trivial))); (case aS => exact (below_size (by repeat (first | (with_reducible first | exact HB.out | apply below_alloc | apply pw_below_drewN | apply below_drew1 | refine below_set ?_ GE129.out | refine below_set ?_ GE133.out) | exact HB.out)))); (case aL => have := LMc10.out; omega); intro v135 w15 ho hb hg hat; rw [← Ny134.out] at ho; have n0_ := Aside0.mk (Kd.S_after (ok := (fun k_ => k_ ≠ gb129)) (by (with_reducible repeat (first | apply Kd.S_alloc | apply Kd.S_drewN | apply Kd.S_drew)); exact Kd.S_mono (Kd.S_far (p := ⟨gb133, 4, none⟩) (Kd.S_far (p := ⟨gb133, 3, none⟩) (Kd.S_far (p := ⟨gb133, 2, none⟩) (Kd.S_far (p := ⟨gb133, 1, none⟩) (Kd.S_far (p := ⟨gb133, 0, none⟩) (Kd.S_types HO_3.out BK133.out (by decide)) (fun _ hk => hk.2) (.int .i64 ((rd_T61 ((rd_T52 l0 x4_1).f1) x6_2).f0))) (fun _ hk => hk.2) (.int .i64 ((rd_T61 ((rd_T52 l0 x4_1).f1) x6_2).f1))) (fun _ hk => hk.2) (.int .i64 ((rd_T61 ((rd_T52 l0 x4_1).f1) x6_2).f2))) (fun _ hk => hk.2) (.int .i64 ((rd_T61 ((rd_T52 l0 x4_1).f1) x6_2).f3))) (fun _ hk => hk.2) (.int .i64 ((rd_T61 ((rd_T52 l0 x4_1).f1) x6_2).f4))) (fun _ hk => ⟨hk.1.2, hk.1.1⟩)) hg hat); have n1_ := Aside0.mk (blk_grown (g := gb129) (o := .cells #[.int .i64 ((rd_T52 l0 x4_1).f0), u130001] 68 (0, 0)) (by (with_reducible repeat (first | refine blk_drewN ?_ _ | refine blk_drew ?_ | refine blk_alloc ?_ _)); refine blk_far ?_ NB129_133.out _; (with_reducible repeat (first | refine blk_drewN ?_ _ | refine blk_drew ?_ | refine blk_alloc ?_ _)); refine blk_far ?_ NB129_133.out _; (with_reducible repeat (first | refine blk_drewN ?_ _ | refine blk_drew ?_ | refine blk_alloc ?_ _)); refine blk_far ?_ NB129_133.out _; (with_reducible repeat (first | refine blk_drewN ?_ _ | refine blk_drew ?_ | refine blk_alloc ?_ _)); refine blk_far ?_ NB129_133.out _; (with_reducible repeat (first | refine blk_drewN ?_ _ | refine blk_drew ?_ | refine blk_alloc ?_ _)); refine blk_far ?_ NB129_133.out _; (with_reducible repeat (first | refine blk_drewN ?_ _ | refine blk_drew ?_ | refine blk_alloc ?_ _)); exact BK129.out) hg (Kd.R_ne HO_130001.out BK129.out (by decide))); have n2_ := Aside0.mk (blk_grown (g := gb133) (o := .cells #[.int .i64 ((rd_T61 ((rd_T52 l0 x4_1).f1) x6_2).f0), .int .i64 ((rd_T61 ((rd_T52 l0 x4_1).f1) x6_2).f1), .int .i64 ((rd_T61 ((rd_T52 l0 x4_1).f1) x6_2).f2), .int .i64 ((rd_T61 ((rd_T52 l0 x4_1).f1) x6_2).f3), .int .i64 ((rd_T61 ((rd_T52 l0 x4_1).f1) x6_2).f4)] 61 (0, 0)) (by (with_reducible repeat (first | refine blk_drewN ?_ _ | refine blk_drew ?_ | refine blk_alloc ?_ _)); refine blk_put (cs := #[.int .i64 ((rd_T61 ((rd_T52 l0 x4_1).f1) x6_2).f0), .int .i64 ((rd_T61 ((rd_T52 l0 x4_1).f1) x6_2).f1), .int .i64 ((rd_T61 ((rd_T52 l0 x4_1).f1) x6_2).f2), .int .i64 ((rd_T61 ((rd_T52 l0 x4_1).f1) x6_2).f3), .int .i64 0]) ?_ 4 _ rfl; (with_reducible repeat (first | refine blk_drewN ?_ _ | refine blk_drew ?_ | refine blk_alloc ?_ _)); refine blk_put (cs := #[.int .i64 ((rd_T61 ((rd_T52 l0 x4_1).f1) x6_2).f0), .int .i64 ((rd_T61 ((rd_T52 l0 x4_1).f1) x6_2).f1), .int .i64 ((rd_T61 ((rd_T52 l0 x4_1).f1) x6_2).f2), .int .i64 0, .int .i64 0]) ?_ 3 _ rfl; (with_reducible repeat (first | refine blk_drewN ?_ _ | refine blk_drew ?_ | refine blk_alloc ?_ _)); refine blk_put (cs := #[.int .i64 ((rd_T61 ((rd_T52 l0 x4_1).f1) x6_2).f0), .int .i64 ((rd_T61 ((rd_T52 l0 x4_1).f1) x6_2).f1), .int .i64 0, .int .i64 0, .int .i64 0]) ?_ 2 _ rfl; (with_reducible repeat (first | refine blk_drewN ?_ _ | refine blk_drew ?_ | refine blk_alloc ?_ _)); refine blk_put (cs := #[.int .i64 ((rd_T61 ((rd_T52 l0 x4_1).f1) x6_2).f0), .int .i64 0, .int .i64 0, .int .i64 0, .int .i64 0]) ?_ 1 _ rfl; (with_reducible repeat (first | refine blk_drewN ?_ _ | refine blk_drew ?_ | refine blk_alloc ?_ _)); refine blk_put (cs := #[.int .i64 0, .int .i64 0, .int .i64 0, .int .i64 0, .int .i64 0]) ?_ 0 _ rfl; (with_reducible repeat (first | refine blk_drewN ?_ _ | refine blk_drew ?_ | refine blk_alloc ?_ _)); exact BK133.out) hg (Kd.R_ne HO_130001.out BK133.out (by decide))); have n3_ := Aside0.mk (hb); have n4_ := Aside0.mk (ho); clear HO_3; clear BK129; clear BK133; clear HB; clear HO_130001; have HO_3 := n0_; have BK129 := n1_; have BK133 := n2_; have HB := n3_; have HO136 := n4_; clear n0_ n1_ n2_ n3_ n4_; clear ho hb hg hat; obtain ⟨Ao16, co16, eo16⟩ := Kd.R_slice HO136.out; subst eo16; have hcz17_0 : w15.cell? ⟨gb129, 0, none⟩ = some (.int .i64 ((rd_T52 l0 x4_1).f0)) := (blk_cell BK129.out 0).trans rfl; have hcz17_1 : w15.cell? ⟨gb129, 1, none⟩ = some (u130001) := (blk_cell BK129.out 1).trans rfl; have hfz17_0 := blk_frozen BK129.out 0; have hfz17_1 := blk_frozen BK129.out 1))
                        go_roundg k2
                        case measure => have := HK1.out; have := HK2.out; omega
                        case rel => exact ⟨(wrap64 (x6_2 + 1)), (y134), (.slice Ao16 y134.length co16), (by first | rfl | (simp; done) | (simp [*]; done)), H', ⟨by have := HK1.out; have := HK2.out; omega⟩, ⟨by (with_reducible repeat (first | apply Kd.S_alloc | apply Kd.S_drewN | apply Kd.S_drew)); exact Kd.S_mono (Kd.S_far (p := ⟨gb129, 1, none⟩) (Kd.S_mono HO_3.out (fun k_ hk => (⟨hk, hk.1⟩ : _ ∧ k_ ≠ gb129))) (fun _ hk => hk.2) (.slice Ao16 y134.length co16)) (fun _ hk => ⟨hk.1.2, hk.1.1⟩)⟩, ⟨by (with_reducible repeat (first | apply Kd.R_alloc | apply Kd.R_drewN | apply Kd.R_drew)); exact Kd.R_mono (Kd.R_far (p := ⟨gb129, 1, none⟩) (Kd.R_types HO136.out BK129.out (by decide)) (fun _ hk => hk.2) (.slice Ao16 y134.length co16)) (fun _ hk => trivial)⟩, ⟨by (with_reducible repeat (first | refine blk_drewN ?_ _ | refine blk_drew ?_ | refine blk_alloc ?_ _)); refine blk_put (cs := #[.int .i64 ((rd_T52 l0 x4_1).f0), u130001]) ?_ 1 _ rfl; (with_reducible repeat (first | refine blk_drewN ?_ _ | refine blk_drew ?_ | refine blk_alloc ?_ _)); exact BK129.out⟩, ⟨by repeat (first | (with_reducible first | exact HB.out | apply below_alloc | apply pw_below_drewN | apply below_drew1 | refine below_set ?_ GE129.out | refine below_set ?_ GE133.out) | exact HB.out)⟩⟩
                      · rw [if_neg c10] at H
                        exact absurd H (by simp)
                    · rw [if_neg c9] at H
                      exact absurd H (by simp)
                  · rw [if_neg c8] at H
                    have c8b0 : decide (x6_2 < (((rd_T52 l0 x4_1).f1).length : Int)) = false := decide_eq_false c8
                    clear c8
                    by_cases c18 : x3_1.length < 4398046511104
                    · rw [if_pos c18] at H
                      have LMc18 := Aside0.mk c18
                      clear c18
                      obtain ⟨y137, hy137⟩ : ∃ y_ : List (S68), y_ = (x3_1 ++ [(⟨((rd_T52 l0 x4_1).f0), x130001_2⟩ : S68)]) := ⟨_, rfl⟩
                      replace H : (haymowlaw12_of.l0 k2 l0 y137 (wrap64 (x4_1 + 1))) = some r := by first | (rw [hy137]; with_reducible exact H) | (have H2_ := (Option.bind_some _ _).symm.trans H; rw [hy137]; with_reducible exact H2_) | (have H2_ := (Option.bind_some _ _).symm.trans H; with_reducible exact H2_) | with_reducible exact H | (rw [hy137]; exact H) | exact H
                      have Ny137 := Aside0.mk hy137
                      clear hy137
                      have H' := Aside0.mk H
                      clear H
                      have p130 : 0 ≤ (x4_1 : Int) := of_decide_eq_true (by first | (with_reducible assumption) | assumption)
                      have q130 : x4_1 < (l0.length : Int) := of_decide_eq_true (by first | (with_reducible assumption) | assumption)
                      obtain ⟨ad130, A130_1, c130_1, e130, hx130_0, hx130_1, hl130_1, hi130_1⟩ := at_T52 HR0.out x4_1 p130 q130
                      obtain rfl : ad128 = ad130 := (by injection e130)
                      replace hx130_0 := (HB.out.cell (World.block_lt_of_cell? w _ hx130_0)).trans hx130_0
                      replace hx130_1 := (HB.out.cell (World.block_lt_of_cell? w _ hx130_1)).trans hx130_1
                      have HR130_1 := Aside0.mk hi130_1
                      have HC130_1 := Aside0.mk hl130_1
                      clear hi130_1 hl130_1
                      replace p130 := eq_true p130
                      replace q130 := eq_true q130
                      have hcz19_0 : wr.cell? ⟨gb129, 0, none⟩ = some (.int .i64 ((rd_T52 l0 x4_1).f0)) := (blk_cell BK129.out 0).trans rfl
                      have hcz19_1 : wr.cell? ⟨gb129, 1, none⟩ = some (u130001) := (blk_cell BK129.out 1).trans rfl
                      have hfz19_0 := blk_frozen BK129.out 0
                      have hfz19_1 := blk_frozen BK129.out 1
                      obtain ⟨Ao21, co21, eo21⟩ := Kd.R_slice HO_130001.out
                      subst eo21
                      go_wp2_with (first | ((with_reducible refine gate_builtin (b := .append) (xs := #[.tmp 54, .tmp 56]) rfl ?_); at_builtin; refine Kd.S_append k68 (w0 := w) w.heap.size rfl (.tmp 54) (.tmp 56) 40 68 (.agg #[(.int .i64 0), (.slice none 0 0)]) 32 rfl Try.underlying40 info68 rfl (by decide) (by omega) u3 x3_1 (⟨((rd_T52 l0 x4_1).f0), x130001_2⟩ : S68) [.int .i64 ((rd_T52 l0 x4_1).f0), .slice Ao21 x130001_2.length co21] (fun k_ => k_ ≠ gb129) (fun k_ => some k_ = (.slice Ao21 x130001_2.length co21 : Value).ownBlock) rfl rfl ?aP (fun k_ hk_ => ((Kd.R_mono (ok' := fun k_ => ((fun k_ => k_ ≠ gb129)) k_ ∧ some k_ ≠ (u3 : Value).ownBlock) (Kd.R_types (Kd.R_apart' (HO_130001.out) (Kd.S_typed HO_3.out) (by decide)) BK129.out (by decide)) (fun k_ hk => ⟨hk.2, hk.1.2⟩))).1 k_ hk_.symm) ?aF ?aO ?aB ?aS ?aL ?_; (case aP => exact k68_mkM _ _ _ (⟨((rd_T52 l0 x4_1).f0), x130001_2⟩ : S68) (Kd.R_mono (Kd.R_tight rfl (Kd.R_mono (ok' := fun k_ => ((fun k_ => k_ ≠ gb129)) k_ ∧ some k_ ≠ (u3 : Value).ownBlock) (Kd.R_types (Kd.R_apart' (HO_130001.out) (Kd.S_typed HO_3.out) (by decide)) BK129.out (by decide)) (fun k_ hk => ⟨hk.2, hk.1.2⟩))) (fun _ h_ => h_))); (case aB => exact (by repeat (first | (with_reducible first | exact HB.out | apply below_alloc | apply pw_below_drewN | apply below_drew1 | refine below_set ?_ GE129.out) | exact HB.out))); (case aF => exact (fun k_ hk => Kd.freshB (g := gb129) (o := .cells #[.int .i64 ((rd_T52 l0 x4_1).f0), .slice Ao21 x130001_2.length co21] 68 (0, 0)) (by (with_reducible repeat (first | refine blk_drewN ?_ _ | refine blk_drew ?_ | refine blk_alloc ?_ _)); exact BK129.out) k_ hk)); (case aO => exact (by (with_reducible repeat (first | apply Kd.S_alloc | apply Kd.S_drewN | apply Kd.S_drew)); exact Kd.S_mono HO_3.out (fun k_ hk => ⟨hk.2, fun e_ => hk.1 e_⟩))); (case aS => exact (below_size (by repeat (first | (with_reducible first | exact HB.out | apply below_alloc | apply pw_below_drewN | apply below_drew1 | refine below_set ?_ GE129.out) | exact HB.out)))); (case aL => have := LMc18.out; omega); intro v138 w20 ho hb hg hat; rw [← Ny137.out] at ho; have n0_ := Aside0.mk (blk_grown (g := gb129) (o := .cells #[.int .i64 ((rd_T52 l0 x4_1).f0), .slice Ao21 x130001_2.length co21] 68 (0, 0)) (by (with_reducible repeat (first | refine blk_drewN ?_ _ | refine blk_drew ?_ | refine blk_alloc ?_ _)); exact BK129.out) hg (Kd.S_away HO_3.out (fun _ hk => hk.2))); have n1_ := Aside0.mk (hb); have n2_ := Aside0.mk (ho); clear BK129; clear HB; clear HO_3; clear HO_130001; have BK129 := n0_; have HB := n1_; have HO139 := n2_; clear n0_ n1_ n2_; clear ho hb hg hat))
                      go_roundg k2
                      case measure => have := HK1.out; have := HK2.out; omega
                      case rel => exact ⟨(y137), (wrap64 (x4_1 + 1)), (by first | rfl | (simp; done) | (simp [*]; done)), H', ⟨by have := HK1.out; have := HK2.out; omega⟩, ⟨by (with_reducible repeat (first | apply Kd.S_alloc | apply Kd.S_drewN | apply Kd.S_drew)); exact Kd.S_mono HO139.out (fun _ hk => trivial)⟩, ⟨by repeat (first | (with_reducible first | exact HB.out | apply below_alloc | apply pw_below_drewN | apply below_drew1 | refine below_set ?_ GE129.out) | exact HB.out)⟩⟩
                    · rw [if_neg c18] at H
                      exact absurd H (by simp)
                · rw [if_neg c7] at H
                  exact absurd H (by simp)
              · rw [if_neg c6] at H
                exact absurd H (by simp)
        · rw [if_neg c3] at H
          exact absurd H (by simp)
      · rw [if_neg c2] at H
        have c2b0 : decide (x4_1 < (l0.length : Int)) = false := decide_eq_false c2
        clear c2
        obtain rfl := Option.some.inj H
        go_wp2
        go_ret
        exact ⟨_, by first | rfl | (simp [errW_none, errW_some] <;> rfl) | (simp [*, errW_none, errW_some] <;> rfl), by (with_reducible repeat (first | apply Kd.S_alloc | apply Kd.S_drewN | apply Kd.S_drew)); exact HO_3.out, by repeat (first | (with_reducible first | exact HB.out | apply below_alloc | apply pw_below_drewN | apply below_drew1) | exact HB.out)⟩

end Go.Proofs.Ytcciejcpijlkfaa.H

namespace Go.Proofs.Ytcciejcpijlkfaa.H
open Go.RowKit Go.Proofs.YtcciejcpijlkfaaW.PrintWords Go.Proofs.YtcciejcpijlkfaaW.PrintLast Go.Proofs.YtcciejcpijlkfaaW.PrintMore
set_option linter.unusedVariables false
set_option linter.unusedSimpArgs false

theorem wrap_id {x : Int} (h0 : -9223372036854775808 ≤ x) (h1 : x < 9223372036854775808) : wrap64 x = x := by unfold wrap64; omega
theorem drop_cons {α : Type} {l : List α} {i : Nat} (h : i < l.length) : l.drop i = l[i] :: l.drop (i + 1) := List.drop_eq_getElem_cons h

end Go.Proofs.Ytcciejcpijlkfaa.H

set_option linter.unusedVariables false
set_option linter.unusedSimpArgs false
namespace Go.Proofs.Ytcciejcpijlkfaa.H
open Go.RowKit Go.Hay Go.Proofs.YtcciejcpijlkfaaW.PrintWords Go.Proofs.YtcciejcpijlkfaaW.PrintLast Go.Proofs.YtcciejcpijlkfaaW.PrintMore
end Go.Proofs.Ytcciejcpijlkfaa.H

set_option linter.unusedVariables false
set_option linter.unusedSimpArgs false
namespace Go.Proofs.Ytcciejcpijlkfaa.H
open Go.RowKit Go.Hay Go.Proofs.YtcciejcpijlkfaaW.PrintWords Go.Proofs.YtcciejcpijlkfaaW.PrintLast Go.Proofs.YtcciejcpijlkfaaW.PrintMore
end Go.Proofs.Ytcciejcpijlkfaa.H

set_option linter.unusedVariables false
set_option linter.unusedSimpArgs false
namespace Go.Proofs.Ytcciejcpijlkfaa.H
open Go.RowKit Go.Hay Go.Proofs.YtcciejcpijlkfaaW.PrintWords Go.Proofs.YtcciejcpijlkfaaW.PrintLast Go.Proofs.YtcciejcpijlkfaaW.PrintMore
end Go.Proofs.Ytcciejcpijlkfaa.H

set_option linter.unusedVariables false
set_option linter.unusedSimpArgs false
namespace Go.Proofs.Ytcciejcpijlkfaa.H
open Go.RowKit Go.Hay Go.Proofs.YtcciejcpijlkfaaW.PrintWords Go.Proofs.YtcciejcpijlkfaaW.PrintLast Go.Proofs.YtcciejcpijlkfaaW.PrintMore
end Go.Proofs.Ytcciejcpijlkfaa.H

set_option linter.unusedVariables false
set_option linter.unusedSimpArgs false
namespace Go.Proofs.Ytcciejcpijlkfaa.H
open Go.RowKit Go.Hay Go.Proofs.YtcciejcpijlkfaaW.PrintWords Go.Proofs.YtcciejcpijlkfaaW.PrintLast Go.Proofs.YtcciejcpijlkfaaW.PrintMore
theorem lt_trueF {i k : Nat} (h : i < k) : ((i : Int) < (k : Nat)) = True := eq_true (by omega)
theorem up_ltF {k i : Nat} (h : i < k) : k - (intOf (.int .i64 ((i : Int) + 1))).toNat < k - (intOf (.int .i64 (i : Int))).toNat := by simp [intOf]; omega
end Go.Proofs.Ytcciejcpijlkfaa.H

set_option linter.unusedVariables false
set_option linter.unusedSimpArgs false
namespace Go.Proofs.Ytcciejcpijlkfaa.H
open Go.RowKit Go.Hay Go.Proofs.YtcciejcpijlkfaaW.PrintWords Go.Proofs.YtcciejcpijlkfaaW.PrintLast Go.Proofs.YtcciejcpijlkfaaW.PrintMore
def bgP (op : Int) : List S68 := [⟨4, [⟨op, 2, 1, 1, 0⟩, ⟨9, 0, 0, 0, 0⟩]⟩, ⟨3, [⟨17, 0, 0, 0, 0⟩]⟩]
def bgF (path : List Int) (a0 a1 a2 a3 : Int) (at_ steps kids : Int) : Fr := ⟨0, at_, steps, kids, path, [a0, a1, a2, a3, 0, 0, 0, 0], [0, 0, 0, 0]⟩
theorem bg_right (op : Int) (h : op = 11 ∨ op = 13) : frRight (bgP op) 99 3 = true := by
  rcases h with rfl | rfl <;> kernel_rfl
theorem bg_exec {op : Int} (h : op = 11 ∨ op = 13) {F : Fr} (hf : F.fn = 0) (ha : F.at_ = 0 ∨ F.at_ = 1) (hs : F.steps < 99) : execP (bgP op) 99 3 F = ((doF (bgP op) 3 (instrF (bgP op) F) (stepF F)).1, 0, (doF (bgP op) 3 (instrF (bgP op) F) (stepF F)).2) := by
  have ht : thereP (bgP op) F = true := by
    unfold thereP
    rw [decide_eq_true_iff, hf]
    have e : (rd_T68 (bgP op) 0).f1.length = 2 := rfl
    have e2 : (bgP op).length = 2 := rfl
    rw [e, e2]
    omega
  unfold execP
  rw [if_pos (bg_right op h), if_pos ht, if_neg (by omega)]
theorem bg_1 {op : Int} (h : op = 11 ∨ op = 13) (path : List Int) (a0 a1 a2 a3 s : Int) (i : Nat) (hi : i < 100) (hs : s < 99) (hp : path.length < 3) :
    execP (bgP op) 99 3 (bgF path a0 a1 a2 a3 0 s i) = (⟨if op = 11 then 3 else 4, 0, if op = 11 then 2 else 0, 1, if op = 11 then 0 else 2, 0, [a1, a2, a3], path ++ [(i : Int)]⟩, 0, bgF path a0 a1 a2 a3 1 (s + 1) (i + 1 : Nat)) := by
  rw [bg_exec h rfl (.inl rfl) hs]
  have hx : instrF (bgP op) (bgF path a0 a1 a2 a3 0 s i) = ⟨op, 2, 1, 1, 0⟩ := rfl
  rw [hx]
  have hw : wrap64 ((i : Int) + 1) = ((i + 1 : Nat) : Int) := by unfold wrap64; omega
  have hb : ∀ k r hd, beginF (bgP op) 3 ⟨op, 2, 1, 1, 0⟩ (stepF (bgF path a0 a1 a2 a3 0 s i)) k r hd = (⟨k, 0, r, 1, hd, 0, [a1, a2, a3], path ++ [(i : Int)]⟩, bgF path a0 a1 a2 a3 1 (s + 1) (i + 1 : Nat)) := by
    intro k r hd
    unfold beginF
    rw [if_neg (by show ¬ (3 : Int) ≤ (path.length : Int); omega)]
    show ((⟨k, 0, r, 1, hd, 0, [a1, a2, a3], path ++ [(i : Int)]⟩ : Ef), (⟨0, 0 + 1, s + 1, wrap64 ((i : Int) + 1), path, [a0, a1, a2, a3, 0, 0, 0, 0], [0, 0, 0, 0]⟩ : Fr)) = _
    rw [hw]
    rfl
  rcases h with rfl | rfl
  · have : doF (bgP 11) 3 ⟨11, 2, 1, 1, 0⟩ (stepF (bgF path a0 a1 a2 a3 0 s i)) = beginF (bgP 11) 3 ⟨11, 2, 1, 1, 0⟩ (stepF (bgF path a0 a1 a2 a3 0 s i)) 3 2 0 := rfl
    rw [this, hb]; rfl
  · have : doF (bgP 13) 3 ⟨13, 2, 1, 1, 0⟩ (stepF (bgF path a0 a1 a2 a3 0 s i)) = beginF (bgP 13) 3 ⟨13, 2, 1, 1, 0⟩ (stepF (bgF path a0 a1 a2 a3 0 s i)) 4 0 2 := rfl
    rw [this, hb]; rfl
theorem bg_2 {op : Int} (h : op = 11 ∨ op = 13) (path : List Int) (a0 a1 a2 a3 s : Int) (i : Nat) (hs : s < 99) :
    execP (bgP op) 99 3 (bgF path a0 a1 a2 a3 1 s i) = (efGoes, 0, bgF path a0 a1 a2 a3 0 (s + 1) i) := by
  rw [bg_exec h rfl (.inr rfl) hs]
  rfl
theorem bg_3 {op : Int} (h : op = 11 ∨ op = 13) (path : List Int) (a0 a1 a2 a3 s : Int) (i : Nat) (hs : s < 99) (hp : 3 ≤ path.length) :
    execP (bgP op) 99 3 (bgF path a0 a1 a2 a3 0 s i) = (efFails 4, 0, bgF path a0 a1 a2 a3 1 (s + 1) i) := by
  rw [bg_exec h rfl (.inl rfl) hs]
  have hx : instrF (bgP op) (bgF path a0 a1 a2 a3 0 s i) = ⟨op, 2, 1, 1, 0⟩ := rfl
  rw [hx]
  have hb : ∀ k r hd, beginF (bgP op) 3 ⟨op, 2, 1, 1, 0⟩ (stepF (bgF path a0 a1 a2 a3 0 s i)) k r hd = (efFails 4, bgF path a0 a1 a2 a3 1 (s + 1) i) := by
    intro k r hd
    unfold beginF
    rw [if_pos (by show (3 : Int) ≤ (path.length : Int); omega)]
    rfl
  rcases h with rfl | rfl
  · have : doF (bgP 11) 3 ⟨11, 2, 1, 1, 0⟩ (stepF (bgF path a0 a1 a2 a3 0 s i)) = beginF (bgP 11) 3 ⟨11, 2, 1, 1, 0⟩ (stepF (bgF path a0 a1 a2 a3 0 s i)) 3 2 0 := rfl
    rw [this, hb]
  · have : doF (bgP 13) 3 ⟨13, 2, 1, 1, 0⟩ (stepF (bgF path a0 a1 a2 a3 0 s i)) = beginF (bgP 13) 3 ⟨13, 2, 1, 1, 0⟩ (stepF (bgF path a0 a1 a2 a3 0 s i)) 4 0 2 := rfl
    rw [this, hb]
end Go.Proofs.Ytcciejcpijlkfaa.H

set_option linter.unusedVariables false
set_option linter.unusedSimpArgs false
namespace Go.Proofs.Ytcciejcpijlkfaa.H
open Go.RowKit Go.Hay Go.Proofs.YtcciejcpijlkfaaW.PrintWords Go.Proofs.YtcciejcpijlkfaaW.PrintLast Go.Proofs.YtcciejcpijlkfaaW.PrintMore
end Go.Proofs.Ytcciejcpijlkfaa.H

set_option linter.unusedVariables false
set_option linter.unusedSimpArgs false
namespace Go.Proofs.Ytcciejcpijlkfaa.H
open Go.RowKit Go.Hay Go.Proofs.YtcciejcpijlkfaaW.PrintWords Go.Proofs.YtcciejcpijlkfaaW.PrintLast Go.Proofs.YtcciejcpijlkfaaW.PrintMore
/-- a program of two functions, the first one's code given. -/
theorem prog2F (w : World) (f1 f2 : S68) (A9 : Option Addr) (c9 : Nat) (h1 : k65.C w A9 f1.f1.length f1.f1) (hc9 : f1.f1.length ≤ c9) (hf2 : f2.f1.length ≤ 1000) {W : World}
    (hW : W = (w.alloc (.cells (f2.f1.flatMap icells).toArray 65)).alloc (.cells (([(f1, A9, c9), (f2, some ⟨w.heap.size, 0, none⟩, f2.f1.length)] : List (S68 × Option Addr × Nat)).flatMap fcells).toArray 68)) :
    Below w.heap.size w W ∧ k68.C W (some ⟨w.heap.size + 1, 0, none⟩) 2 [f1, f2] := by
  obtain ⟨Wa, hWa⟩ : ∃ Wa, Wa = w.alloc (.cells (f2.f1.flatMap icells).toArray 65) := ⟨_, rfl⟩
  rw [← hWa] at hW
  have e1 : Wa.heap.size = w.heap.size + 1 := by rw [hWa]; exact Array.size_push _
  have ba : Below w.heap.size w Wa := by rw [hWa]; exact (Below.refl _ _).alloc (Nat.le_refl _) _
  have bd : Below w.heap.size w W := by rw [hW]; exact ba.alloc ba.size _
  have g2 : W.heap[w.heap.size]? = some (.cells (f2.f1.flatMap icells).toArray 65 (0, 0)) := by
    rw [hW]; refine blk_alloc ?_ _; rw [hWa]; exact alloc_blk w _
  have g4 : W.heap[w.heap.size + 1]? = some (.cells (([(f1, A9, c9), (f2, some ⟨w.heap.size, 0, none⟩, f2.f1.length)] : List (S68 × Option Addr × Nat)).flatMap fcells).toArray 68 (0, 0)) := by
    rw [hW, ← e1]; exact alloc_blk Wa _
  refine ⟨bd, prog_C _ g4 (by simp) (fun p hp => ?_)⟩
  simp only [List.mem_cons, List.not_mem_nil, or_false] at hp
  rcases hp with rfl | rfl
  · exact ⟨Kd.C_below h1 bd, hc9⟩
  · exact ⟨code_C _ g2 (by show f2.f1.length ≤ _; omega), Nat.le_refl _⟩
/-- both newly written. -/
theorem prog2N (w : World) (f1 f2 : S68) (hf1 : f1.f1.length ≤ 1000) (hf2 : f2.f1.length ≤ 1000) {W : World}
    (hW : W = ((w.alloc (.cells (f1.f1.flatMap icells).toArray 65)).alloc (.cells (f2.f1.flatMap icells).toArray 65)).alloc (.cells (([(f1, some ⟨w.heap.size, 0, none⟩, f1.f1.length), (f2, some ⟨w.heap.size + 1, 0, none⟩, f2.f1.length)] : List (S68 × Option Addr × Nat)).flatMap fcells).toArray 68)) :
    Below w.heap.size w W ∧ k68.C W (some ⟨w.heap.size + 1 + 1, 0, none⟩) 2 [f1, f2] ∧ W.heap.size = w.heap.size + 1 + 1 + 1 := by
  obtain ⟨Wa, hWa⟩ : ∃ Wa, Wa = w.alloc (.cells (f1.f1.flatMap icells).toArray 65) := ⟨_, rfl⟩
  rw [← hWa] at hW
  have e1 : Wa.heap.size = w.heap.size + 1 := by rw [hWa]; exact Array.size_push _
  have ba : Below w.heap.size w Wa := by rw [hWa]; exact (Below.refl _ _).alloc (Nat.le_refl _) _
  have g1 : Wa.heap[w.heap.size]? = some (.cells (f1.f1.flatMap icells).toArray 65 (0, 0)) := by rw [hWa]; exact alloc_blk w _
  have e3 : W.heap.size = Wa.heap.size + 1 + 1 := by rw [hW]; exact (Array.size_push _).trans (congrArg (· + 1) (Array.size_push _))
  rw [← e1] at hW
  obtain ⟨hb, hC⟩ := prog2F Wa f1 f2 (some ⟨w.heap.size, 0, none⟩) f1.f1.length (code_C _ g1 (by omega)) (Nat.le_refl _) hf2 hW
  exact ⟨ba.trans (hb.mono ba.size), by rw [← e1]; exact hC, by rw [e3, e1]⟩
end Go.Proofs.Ytcciejcpijlkfaa.H

-- made by this session's gen.py over the kit's print.py; not trusted: Lean checks it
namespace Go.Proofs.Ytcciejcpijlkfaa.H
open Go.RowKit Go.Proofs.YtcciejcpijlkfaaW.PrintWords Go.Proofs.YtcciejcpijlkfaaW.PrintLast Go.Proofs.YtcciejcpijlkfaaW.PrintMore
attribute [local go_sem] max2_int min2_int max_two min_two max_three min_three max_four min_four   -- for this text's walks alone
set_option linter.unusedVariables false
set_option linter.unusedSimpArgs false

/-! ### haymowlaw12_numbers: function 19 -/
def haymowlaw12_numbers.l0 : Nat → List Int → List Int → Int → Option (Bool)
  | 0, _, _, _ => none
  | k + 1, x0, x1, x5 => if x5 < (x0.length : Int) then (if 0 ≤ x5 then (if x5 < (x1.length : Int) then (if (rd x0 x5) = (rd x1 x5) then (haymowlaw12_numbers.l0 k x0 x1 (wrap64 (x5 + 1))) else (some false)) else (none)) else (none)) else (some true)
def haymowlaw12_numbers.f (k : Nat) (l0 : List Int) (l1 : List Int) : Option (Bool) := if (l0.length : Int) = (l1.length : Int) then (haymowlaw12_numbers.l0 k l0 l1 0) else (some false)
theorem haymowlaw12_numbers.mono_l : ∀ k, (∀ y0 y1 y2, LeO (haymowlaw12_numbers.l0 k y0 y1 y2) (haymowlaw12_numbers.l0 (k + 1) y0 y1 y2))
  | 0 => fun _ _ _ r h => by simp [haymowlaw12_numbers.l0] at h
  | k + 1 => by
    have ih0 := haymowlaw12_numbers.mono_l k
    · intro y0 y1 y2
      unfold haymowlaw12_numbers.l0
      repeat' first
      | (with_reducible exact ih0 _ _ _)
      | (with_reducible exact LeO.refl _)
      | (with_reducible exact LeO.none _)
      | (with_reducible refine LeO.ite ?_ ?_)
      | (with_reducible refine LeO.bind ?_ (fun _ => ?_))
      | exact ih0 _ _ _
      | exact LeO.none _
      | refine LeO.ite ?_ ?_
      | refine LeO.bind ?_ (fun _ => ?_)
theorem haymowlaw12_numbers.mono : ∀ a0 a1 k, LeO (haymowlaw12_numbers.f k a0 a1) (haymowlaw12_numbers.f (k + 1) a0 a1) := by
  intro a0 a1 k
  have ih0 := haymowlaw12_numbers.mono_l k
  unfold haymowlaw12_numbers.f
  repeat' first
      | (with_reducible exact ih0 _ _ _)
      | (with_reducible exact LeO.refl _)
      | (with_reducible exact LeO.none _)
      | (with_reducible refine LeO.ite ?_ ?_)
      | (with_reducible refine LeO.bind ?_ (fun _ => ?_))
      | exact ih0 _ _ _
      | exact LeO.none _
      | refine LeO.ite ?_ ?_
      | refine LeO.bind ?_ (fun _ => ?_)
set_option maxHeartbeats 8000000 in
set_option maxRecDepth 100000 in
theorem haymowlaw12_numbers.calls (k : Nat) (A0 : Option Addr) (c0 : Nat) (l0 : List Int) (A1 : Option Addr) (c1 : Nat) (l1 : List Int) (r : Bool) (w : World) (hr0 : Kd.C (Kd.int .i64) w A0 l0.length l0) (hc0 : l0.length ≤ c0) (hr1 : Kd.C (Kd.int .i64) w A1 l1.length l1) (hc1 : l1.length ≤ c1) (h : haymowlaw12_numbers.f k l0 l1 = some r) :
    Calls Try.prog 19 #[.slice A0 l0.length c0, .slice A1 l1.length c1] w fun e w' => e = .returned (.bool r) ∧ Drawn0 w w' := by
  have HR0 := Aside0.mk hr0
  have HC0 := Aside0.mk hc0
  clear hr0 hc0
  have HR1 := Aside0.mk hr1
  have HC1 := Aside0.mk hc1
  clear hr1 hc1
  have H : (if (l0.length : Int) = (l1.length : Int) then (haymowlaw12_numbers.l0 k l0 l1 0) else (some false)) = some r := h
  clear h
  by_cases c3 : (l0.length : Int) = (l1.length : Int)
  · rw [if_pos c3] at H
    have c3b0 : ((l0.length : Int) == (l1.length : Int)) = true := beq_iff_eq.mpr c3
    have c3b1 : ((l0.length : Int) != (l1.length : Int)) = false := bne_eq_false_iff_eq.mpr c3
    have c3b2 : (l0.length == l1.length) = true := by first | simpa using c3 | (simp at c3 ⊢; omega)
    clear c3
    have H' := Aside0.mk H
    clear H
    go_enter Try.func19, Try.ntmps19
    go_wp2
    repeat (go_quiet (fail); try go_wp2)
    go_loopg [5] k (fun kq v5 w' => ∃ (x5_1 : Int), v5 = .int .i64 x5_1 ∧ Aside0 (haymowlaw12_numbers.l0 kq l0 l1 x5_1 = some r) ∧ Aside0 (kq ≤ k) ∧ Drawn0 w w')
    case atStart => exact ⟨(0), (by first | rfl | (simp; done) | (simp [*]; done)), H', ⟨Nat.le_refl _⟩, by repeat (first | exact Drawn0.refl _ | apply Drawn0.step)⟩
    case round =>
      clear H'
      try clear c1
      try clear p2
      try clear c3
      try clear c3b0
      try clear c3b1
      try clear c3b2
      obtain ⟨x5_1, rfl, HA, HK1, ⟨m1, rfl⟩⟩ := hrel
      cases gk with
      | zero => exact absurd HA.out (by simp [haymowlaw12_numbers.l0])
      | succ k1 =>
        have H := HA.out
        clear HA
        simp only [haymowlaw12_numbers.l0] at H
        by_cases c4 : x5_1 < (l0.length : Int)
        · rw [if_pos c4] at H
          have c4b0 : decide (x5_1 < (l0.length : Int)) = true := decide_eq_true c4
          clear c4
          by_cases c5 : 0 ≤ x5_1
          · rw [if_pos c5] at H
            have c5b0 : decide (0 ≤ x5_1) = true := decide_eq_true c5
            clear c5
            by_cases c6 : x5_1 < (l1.length : Int)
            · rw [if_pos c6] at H
              have c6b0 : decide (x5_1 < (l1.length : Int)) = true := decide_eq_true c6
              clear c6
              by_cases c7 : (rd l0 x5_1) = (rd l1 x5_1)
              · rw [if_pos c7] at H
                have c7b0 : ((rd l0 x5_1) == (rd l1 x5_1)) = true := beq_iff_eq.mpr c7
                have c7b1 : ((rd l0 x5_1) != (rd l1 x5_1)) = false := bne_eq_false_iff_eq.mpr c7
                clear c7
                have H' := Aside0.mk H
                clear H
                have p185 : 0 ≤ (x5_1 : Int) := of_decide_eq_true (by first | (with_reducible assumption) | assumption)
                have q185 : x5_1 < (l0.length : Int) := of_decide_eq_true (by first | (with_reducible assumption) | assumption)
                obtain ⟨ad185, e185, hx185_0⟩ := Kd.at_int HR0.out x5_1 p185 q185
                cases e185
                replace p185 := eq_true p185
                replace q185 := eq_true q185
                have p186 : 0 ≤ (x5_1 : Int) := of_decide_eq_true (by first | (with_reducible assumption) | assumption)
                have q186 : x5_1 < (l1.length : Int) := of_decide_eq_true (by first | (with_reducible assumption) | assumption)
                obtain ⟨ad186, e186, hx186_0⟩ := Kd.at_int HR1.out x5_1 p186 q186
                cases e186
                replace p186 := eq_true p186
                replace q186 := eq_true q186
                go_wp2
                repeat (go_quiet (fail); try go_wp2)
                go_roundg k1
                case measure => have := HK1.out; omega
                case rel => exact ⟨(wrap64 (x5_1 + 1)), (by first | rfl | (simp; done) | (simp [*]; done)), H', ⟨by have := HK1.out; omega⟩, by repeat (first | exact Drawn0.refl _ | apply Drawn0.step)⟩
              · rw [if_neg c7] at H
                have c7b0 : ((rd l0 x5_1) == (rd l1 x5_1)) = false := beq_eq_false_iff_ne.mpr c7
                have c7b1 : ((rd l0 x5_1) != (rd l1 x5_1)) = true := bne_iff_ne.mpr c7
                obtain rfl := Option.some.inj H
                have p185 : 0 ≤ (x5_1 : Int) := of_decide_eq_true (by first | (with_reducible assumption) | assumption)
                have q185 : x5_1 < (l0.length : Int) := of_decide_eq_true (by first | (with_reducible assumption) | assumption)
                obtain ⟨ad185, e185, hx185_0⟩ := Kd.at_int HR0.out x5_1 p185 q185
                cases e185
                replace p185 := eq_true p185
                replace q185 := eq_true q185
                have p186 : 0 ≤ (x5_1 : Int) := of_decide_eq_true (by first | (with_reducible assumption) | assumption)
                have q186 : x5_1 < (l1.length : Int) := of_decide_eq_true (by first | (with_reducible assumption) | assumption)
                obtain ⟨ad186, e186, hx186_0⟩ := Kd.at_int HR1.out x5_1 p186 q186
                cases e186
                replace p186 := eq_true p186
                replace q186 := eq_true q186
                go_wp2
                repeat (go_quiet (fail); try go_wp2)
                go_ret
                exact ⟨by first | rfl | (simp; done) | (simp [*]; done), by repeat (first | exact Drawn0.refl _ | apply Drawn0.step)⟩
            · rw [if_neg c6] at H
              exact absurd H (by simp)
          · rw [if_neg c5] at H
            exact absurd H (by simp)
        · rw [if_neg c4] at H
          have c4b0 : decide (x5_1 < (l0.length : Int)) = false := decide_eq_false c4
          clear c4
          obtain rfl := Option.some.inj H
          go_wp2
          repeat (go_quiet (fail); try go_wp2)
          go_ret
          exact ⟨by first | rfl | (simp; done) | (simp [*]; done), by repeat (first | exact Drawn0.refl _ | apply Drawn0.step)⟩
  · rw [if_neg c3] at H
    have c3b0 : ((l0.length : Int) == (l1.length : Int)) = false := beq_eq_false_iff_ne.mpr c3
    have c3b1 : ((l0.length : Int) != (l1.length : Int)) = true := bne_iff_ne.mpr c3
    have c3b2 : (l0.length == l1.length) = false := by first | simpa using c3 | (simp at c3 ⊢; omega)
    obtain rfl := Option.some.inj H
    go_enter Try.func19, Try.ntmps19
    go_wp2
    repeat (go_quiet (fail); try go_wp2)
    go_ret
    exact ⟨by first | rfl | (simp; done) | (simp [*]; done), by repeat (first | exact Drawn0.refl _ | apply Drawn0.step)⟩

end Go.Proofs.Ytcciejcpijlkfaa.H

set_option linter.unusedVariables false
set_option linter.unusedSimpArgs false
namespace Go.Proofs.Ytcciejcpijlkfaa.H
open Go.RowKit Go.Hay Go.Proofs.YtcciejcpijlkfaaW.PrintWords Go.Proofs.YtcciejcpijlkfaaW.PrintLast Go.Proofs.YtcciejcpijlkfaaW.PrintMore
theorem num_loop (x y : List Int) (hl : x.length = y.length) (hx : x.length ≤ 9223372036854775807) : ∀ (n i : Nat), x.length - i = n → i ≤ x.length → Ev (fun k => haymowlaw12_numbers.l0 k x y i) (decide (x.drop i = y.drop i))
  | 0, i, hn, hi => by
    obtain rfl : i = x.length := by omega
    refine Ev.step (f := fun _ => some _) (fun k => ?_) (Ev.now _)
    rw [haymowlaw12_numbers.l0, if_neg (by omega), List.drop_length, List.drop_eq_nil_of_le (by omega)]
    rfl
  | n + 1, i, hn, hi => by
    have hlt : i < x.length := by omega
    have hly : i < y.length := by omega
    have e1 : rd x (i : Int) = x[i] := by simp [rd, hlt]
    have e2 : rd y (i : Int) = y[i] := by simp [rd, hly]
    rw [drop_cons hlt, drop_cons hly]
    by_cases h : x[i] = y[i]
    · have ih := num_loop x y hl hx n (i + 1) (by omega) (by omega)
      have e : decide (x[i] :: x.drop (i + 1) = y[i] :: y.drop (i + 1)) = decide (x.drop (i + 1) = y.drop (i + 1)) := decide_eq_decide.2 ⟨fun e => (List.cons.inj e).2, fun e => by rw [h, e]⟩
      rw [e]
      refine Ev.step (fun k => ?_) ih
      rw [haymowlaw12_numbers.l0, if_pos (by omega), if_pos (by omega), if_pos (by omega), e1, e2, if_pos h, wrap_id (x := (i : Int) + 1) (by omega) (by omega)]
      rfl
    · refine Ev.step (f := fun _ => some false) (fun k => ?_) (by rw [decide_eq_false (by intro e; injection e with e1 _; exact h e1)]; exact Ev.now _)
      rw [haymowlaw12_numbers.l0, if_pos (by omega), if_pos (by omega), if_pos (by omega), e1, e2, if_neg h]
theorem num_ev (x y : List Int) (hx : x.length ≤ 9223372036854775807) : Ev (fun k => haymowlaw12_numbers.f k x y) (decide (x = y)) := by
  by_cases h : x.length = y.length
  · refine Ev.congr (fun k => ?_) (num_loop x y h hx x.length 0 rfl (Nat.zero_le _))
    unfold haymowlaw12_numbers.f
    rw [if_pos (by omega)]
    rfl
  · rw [decide_eq_false (fun e => h (by rw [e]))]
    exact Ev.congr (fun k => by unfold haymowlaw12_numbers.f; rw [if_neg (by omega)]) (Ev.now _)
theorem num_is {r : Bool} (A0 : Option Addr) (c0 : Nat) (l0 : List Int) (A1 : Option Addr) (c1 : Nat) (l1 : List Int) (w : World) (hr : decide (l0 = l1) = r) (h0 : (Kd.int .i64).C w A0 l0.length l0) (hc0 : l0.length ≤ c0) (h1 : (Kd.int .i64).C w A1 l1.length l1) (hc1 : l1.length ≤ c1) (hx : l0.length ≤ 9223372036854775807) :
    Calls Try.prog 19 #[.slice A0 l0.length c0, .slice A1 l1.length c1] w fun e w' => e = .returned (.bool r) ∧ Drawn0 w w' := by
  obtain ⟨K, hK⟩ := num_ev l0 l1 hx
  rw [hr] at hK
  exact haymowlaw12_numbers.calls K A0 c0 l0 A1 c1 l1 r w h0 hc0 h1 hc1 (hK K (Nat.le_refl _))
end Go.Proofs.Ytcciejcpijlkfaa.H

set_option linter.unusedVariables false
set_option linter.unusedSimpArgs false
namespace Go.Proofs.Ytcciejcpijlkfaa.H
open Go.RowKit Go.Hay Go.Proofs.YtcciejcpijlkfaaW.PrintWords Go.Proofs.YtcciejcpijlkfaaW.PrintLast Go.Proofs.YtcciejcpijlkfaaW.PrintMore
theorem infoBg : (Try.prog.info? 3).map (fun i => (i.zero, i.size, i.bytes)) = some (some (.int .i64 0), 1, 8) := by kernel_rfl
/-- make([]int, n) at the operation. -/
theorem wp_make_ints {o : Oper} {a : Act} {K : Act → World → Prop} {Q : Exit → Act → World → Prop} {W : World} (hgd : o.guard = none) {N : Tmp} (hd : o.dst = some N) (x y : Operand) (ho : o.op = .makeSlice 23 x y) (n : Nat) (hx : a.eval x = .int .i64 n) (hy : a.eval y = .int .i64 n) (hl : n ≤ 1000)
    (h : ∀ v1 w1, (Kd.int .i64).R 3 w1 W.heap.size (fun _ => True) v1 (List.replicate n 0) → Below W.heap.size W w1 → K (a.put o.dst v1) w1) : o.wp Try.prog a W K Q := by
  have hw : Region.wanted o (yielded #[] a.tmps) = true := by simp [Region.wanted, hgd]
  have := Kd.R_make_step (P := Try.prog) (ops := #[]) (Kc := K) (Q := Q) (Kd.int .i64) (w0 := W) W.heap.size 3 hw hd 23 x y ho (n : Int) hx hy Try.underlying23 (.int .i64 0) 8 infoBg rfl (by decide) (by decide) 0 (ok := fun _ => True) (okp := fun _ => False) rfl (fun _ _ => trivial) trivial (by omega) (by omega) (Below.refl _ _) (Nat.le_refl _) (fun v1 w1 h1 h2 _ _ => h v1 w1 (by rw [Int.toNat_natCast] at h1; exact h1) h2)
  rwa [if_pos hw] at this
theorem bgd_ge {d : Nat} (h : d < 3) : ((d : Int) ≥ 3) = False := eq_false (by omega)
theorem bgd_le {d : Nat} (h : d < 3) : ((3 : Int) ≤ (d : Int)) = False := eq_false (by omega)
theorem bgd_ge2 {d : Nat} (h : ¬ d < 3) : ((d : Int) ≥ 3) = True := eq_true (by omega)
theorem bgd_le2 {d : Nat} (h : ¬ d < 3) : ((3 : Int) ≤ (d : Int)) = True := eq_true (by omega)
theorem bgd_w {d : Nat} (h : d < 100) : IntKind.i64.wrap ((d : Int) + 1) = (d : Int) + 1 := IntWalk.i64_in _ (by omega)
theorem bgd_w2 {d : Nat} (h : d < 100) : wrap64 ((d : Int) + 1) = (d : Int) + 1 := (IntWalk.i64_left _).symm.trans (bgd_w h)
theorem bgd_l (d : Nat) : ((d : Int) < (d : Int) + 1) = True := eq_true (by omega)
theorem bgd_l2 (d : Nat) : (d < d + 1) = True := eq_true (by omega)
theorem bgd_0 (d : Nat) : ((0 : Int) ≤ (d : Int)) = True := eq_true (by omega)
theorem two_lt {i : Nat} (h : i < 10) : ((2 * i : Nat) : Int) < 99 := by omega
theorem two_lt1 {i : Nat} (h : i < 10) : ((2 * i : Nat) : Int) + 1 < 99 := by omega
theorem two_next (i : Nat) : ((2 * i : Nat) : Int) + 1 + 1 = ((2 * (i + 1) : Nat) : Int) := by omega
theorem len_lt {path : List Int} {d : Nat} (h : path.length = d) (h3 : d < 3) : path.length < 3 := by omega
theorem len_ge {path : List Int} {d : Nat} (h : path.length = d) (h3 : ¬ d < 3) : 3 ≤ path.length := by omega
theorem at_path {W : World} {A : Option Addr} {path : List Int} {d : Nat} {x : Int} (hp : path.length = d) (h : (Kd.int .i64).C W A (d + 1) (path ++ [x])) : ∃ ad, A = some ad ∧ W.cell? (ad.add d) = some (.int .i64 x) := by
  obtain ⟨_, _, h3⟩ := h
  obtain ⟨ad, e, h4⟩ := h3 (by omega)
  obtain ⟨cs, h5, h6, h7⟩ := h4 d x (by rw [List.getElem?_append_right (by omega), hp]; simp)
  have h6 : cs = [.int .i64 x] := h6
  subst h6
  have := h7 0 _ rfl
  have e2 : d * (Kd.int .i64).sz + 0 = d := Nat.mul_one d
  rw [e2] at this
  exact ⟨ad, e, this⟩
theorem slice_four (yb : Nat) (w : World) : (Instr.sliceAt 70 (.pointer (some ⟨yb, 0, none⟩)) none none none).run Try.prog w = .ok (.slice (some ⟨yb, 0, none⟩) 4 4) w := by
  have hal : Try.prog.arrayLen 70 = 4 := by kernel_rfl
  have hel : Try.prog.elem 70 = 2 := by kernel_rfl
  have ht : Try.prog.underlying 70 = some (.array (Try.prog.arrayLen 70) (Try.prog.elem 70)) := by rw [hal, hel]; exact Try.underlying70
  have hsz : ∀ w, (sizeOf 2).run Try.prog w = .ok 1 w := fun _ => by kernel_rfl
  rw [run_sliceAt_array_all w 70 ⟨yb, 0, none⟩ ht, hal, hel, hsz]
  rfl
theorem slice_three (yb : Nat) (w : World) : (Instr.sliceAt 70 (.pointer (some ⟨yb, 0, none⟩)) (some (.int .i64 1)) none none).run Try.prog w = .ok (.slice (some ⟨yb, 1, none⟩) 3 3) w := by
  have hal : Try.prog.arrayLen 70 = 4 := by kernel_rfl
  have hel : Try.prog.elem 70 = 2 := by kernel_rfl
  have ht : Try.prog.underlying 70 = some (.array (Try.prog.arrayLen 70) (Try.prog.elem 70)) := by rw [hal, hel]; exact Try.underlying70
  have hsz : ∀ w, (sizeOf 2).run Try.prog w = .ok 1 w := fun _ => by kernel_rfl
  rw [run_sliceAt_array_l w 70 ⟨yb, 0, none⟩ ht .i64 1 (by decide) (by rw [hal]; decide), hel, hsz, hal]
  rfl
/-- what stays right between two calls of Exec. -/
structure BgS (w : World) (fb : Nat) (F : Fr) (Ap : Option Addr) (cp : Nat) (A : Option Addr) (l : List S68) (yb : Nat) (a0 a1 a2 a3 : Int) (W : World) : Prop where
  below : Below w.heap.size w W
  pg : ProgK fb W A l
  arr : W.heap[yb]? = some (.cells #[.int .i64 a0, .int .i64 a1, .int .i64 a2, .int .i64 a3] 70 (0, 0))
  yf : yb ≠ fb
  lo : w.heap.size ≤ fb
  lf : LF fb F Ap cp W
section
variable {w W W1 : World} {fb : Nat} {F F1 : Fr} {Ap : Option Addr} {cp : Nat} {A : Option Addr} {l : List S68} {yb : Nat} {a0 a1 a2 a3 : Int}
theorem BgS.next (h : BgS w fb F Ap cp A l yb a0 a1 a2 a3 W) (hL : LF fb F1 Ap cp W1) (hk : Keep (fun q => q = fb) W W1) : BgS w fb F1 Ap cp A l yb a0 a1 a2 a3 W1 :=
  ⟨h.below.trans (hk.below h.below.size (fun q hq e => by have := h.lo; omega)), h.pg.next hk, hk.blk h.arr h.yf, h.yf, h.lo, hL⟩
theorem BgS.below2 (h : BgS w fb F Ap cp A l yb a0 a1 a2 a3 W) (hb : Below W.heap.size W W1) : BgS w fb F Ap cp A l yb a0 a1 a2 a3 W1 :=
  h.next (h.lf.below hb) (Keep.of_below hb _)
/-- the last three of the four, as_ a row. -/
theorem BgS.three (h : BgS w fb F Ap cp A l yb a0 a1 a2 a3 W) : (Kd.int .i64).C W (some ⟨yb, 1, none⟩) 3 [a1, a2, a3] := by
  refine ⟨rfl, by decide, fun _ => ⟨_, rfl, fun j p hj => ⟨[.int .i64 p], rfl, rfl, fun i u hu => ?_⟩⟩⟩
  have hlt := (List.getElem?_eq_some_iff.1 hj).1
  match i, hu with
  | 0, hu =>
    cases hu
    have e : (⟨yb, 1, none⟩ : Addr).add (j * (Kd.int .i64).sz + 0) = ⟨yb, 1 + j, none⟩ := by
      have e2 : j * (Kd.int .i64).sz + 0 = j := Nat.mul_one j
      rw [e2]
      unfold Addr.add
      by_cases hj0 : j = 0
      · subst hj0; simp
      · simp [hj0]
    rw [e]
    have : j = 0 ∨ j = 1 ∨ j = 2 := by simp at hlt; omega
    rcases this with rfl | rfl | rfl <;> (cases hj; exact blk_cell h.arr _)
end
/-- four numbers in a box, as_ a row. -/
theorem four_C {W : World} {yb t : Nat} {a0 a1 a2 a3 : Int} (h : W.heap[yb]? = some (.cells #[.int .i64 a0, .int .i64 a1, .int .i64 a2, .int .i64 a3] t (0, 0))) : (Kd.int .i64).C W (some ⟨yb, 0, none⟩) 4 [a0, a1, a2, a3] := by
  refine ⟨rfl, by decide, fun _ => ⟨_, rfl, fun j p hj => ⟨[.int .i64 p], rfl, rfl, fun i u hu => ?_⟩⟩⟩
  have hlt := (List.getElem?_eq_some_iff.1 hj).1
  match i, hu with
  | 0, hu =>
    cases hu
    rw [add_plain]
    have e2 : j * (Kd.int .i64).sz + 0 = j := Nat.mul_one j
    rw [e2]
    have : j = 0 ∨ j = 1 ∨ j = 2 ∨ j = 3 := by simp at hlt; omega
    rcases this with rfl | rfl | rfl | rfl <;> (cases hj; exact blk_cell h _)
end Go.Proofs.Ytcciejcpijlkfaa.H

