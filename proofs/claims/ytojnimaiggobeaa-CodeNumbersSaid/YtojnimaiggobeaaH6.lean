-- made by this session's gen.py over the kit's print.py; not trusted: Lean checks it
import Derived.Test.YtojnimaiggobeaaH0
namespace Go.Proofs.Ytojnimaiggobeaa.H
open Go.RowKit Go.Proofs.YtojnimaiggobeaaW.PrintWords Go.Proofs.YtojnimaiggobeaaW.PrintLast Go.Proofs.YtojnimaiggobeaaW.PrintMore
attribute [local go_sem] max2_int min2_int max_two min_two max_three min_three max_four min_four   -- for this text's walks alone
set_option linter.unusedVariables false
set_option linter.unusedSimpArgs false

/-! ### haymowlaw02_of: function 11 -/
mutual
def haymowlaw02_of.l0 : Nat → List (S51) → List (S47) → Int → Option ((List (S47)))
  | 0, _, _, _ => none
  | k + 1, x0, x3, x4 => if x4 < (x0.length : Int) then (if 0 ≤ x4 then (haymowlaw02_of.l1 k x0 x3 x4 0 ((rd_T51 x0 x4).f0) ([] : List (S44))) else (none)) else (some x3)
def haymowlaw02_of.l1 : Nat → List (S51) → List (S47) → Int → Int → Int → List (S44) → Option ((List (S47)))
  | 0, _, _, _, _, _, _ => none
  | k + 1, x0, x3, x4, x6, x105000, x105001 => if 0 ≤ x4 then (if x4 < (x0.length : Int) then (if x6 < (((rd_T51 x0 x4).f1).length : Int) then (if 0 ≤ x6 then (if x105001.length < 3518437208883 then (haymowlaw02_of.l1 k x0 x3 x4 (wrap64 (x6 + 1)) x105000 (x105001 ++ [(⟨(rd_T56 ((rd_T51 x0 x4).f1) x6).f0, (rd_T56 ((rd_T51 x0 x4).f1) x6).f1, (rd_T56 ((rd_T51 x0 x4).f1) x6).f2, (rd_T56 ((rd_T51 x0 x4).f1) x6).f3, (rd_T56 ((rd_T51 x0 x4).f1) x6).f4⟩ : S44)])) else (none)) else (none)) else (if x3.length < 4398046511104 then (haymowlaw02_of.l0 k x0 (x3 ++ [(⟨x105000, x105001⟩ : S47)]) (wrap64 (x4 + 1))) else (none))) else (none)) else (none)
end
def haymowlaw02_of.f (k : Nat) (l0 : List (S51)) : Option ((List (S47))) := haymowlaw02_of.l0 k l0 ([] : List (S47)) 0
theorem haymowlaw02_of.mono_l : ∀ k, (∀ y0 y1 y2, LeO (haymowlaw02_of.l0 k y0 y1 y2) (haymowlaw02_of.l0 (k + 1) y0 y1 y2)) ∧ (∀ y0 y1 y2 y3 y4 y5, LeO (haymowlaw02_of.l1 k y0 y1 y2 y3 y4 y5) (haymowlaw02_of.l1 (k + 1) y0 y1 y2 y3 y4 y5))
  | 0 => ⟨fun _ _ _ r h => by simp [haymowlaw02_of.l0] at h, fun _ _ _ _ _ _ r h => by simp [haymowlaw02_of.l1] at h⟩
  | k + 1 => by
    obtain ⟨ih0, ih1⟩ := haymowlaw02_of.mono_l k
    refine ⟨?_, ?_⟩
    · intro y0 y1 y2
      unfold haymowlaw02_of.l0
      repeat' first
      | (with_reducible exact ih0 _ _ _)
      | (with_reducible exact ih1 _ _ _ _ _ _)
      | (with_reducible exact LeO.refl _)
      | (with_reducible exact LeO.none _)
      | (with_reducible refine LeO.ite ?_ ?_)
      | (with_reducible refine LeO.bind ?_ (fun _ => ?_))
      | exact ih0 _ _ _
      | exact ih1 _ _ _ _ _ _
      | exact LeO.none _
      | refine LeO.ite ?_ ?_
      | refine LeO.bind ?_ (fun _ => ?_)
    · intro y0 y1 y2 y3 y4 y5
      unfold haymowlaw02_of.l1
      repeat' first
      | (with_reducible exact ih0 _ _ _)
      | (with_reducible exact ih1 _ _ _ _ _ _)
      | (with_reducible exact LeO.refl _)
      | (with_reducible exact LeO.none _)
      | (with_reducible refine LeO.ite ?_ ?_)
      | (with_reducible refine LeO.bind ?_ (fun _ => ?_))
      | exact ih0 _ _ _
      | exact ih1 _ _ _ _ _ _
      | exact LeO.none _
      | refine LeO.ite ?_ ?_
      | refine LeO.bind ?_ (fun _ => ?_)
theorem haymowlaw02_of.mono : ∀ a0 k, LeO (haymowlaw02_of.f k a0) (haymowlaw02_of.f (k + 1) a0) := by
  intro a0 k
  obtain ⟨ih0, ih1⟩ := haymowlaw02_of.mono_l k
  unfold haymowlaw02_of.f
  repeat' first
      | (with_reducible exact ih0 _ _ _)
      | (with_reducible exact ih1 _ _ _ _ _ _)
      | (with_reducible exact LeO.refl _)
      | (with_reducible exact LeO.none _)
      | (with_reducible refine LeO.ite ?_ ?_)
      | (with_reducible refine LeO.bind ?_ (fun _ => ?_))
      | exact ih0 _ _ _
      | exact ih1 _ _ _ _ _ _
      | exact LeO.none _
      | refine LeO.ite ?_ ?_
      | refine LeO.bind ?_ (fun _ => ?_)
set_option maxHeartbeats 8000000 in
set_option maxRecDepth 100000 in
theorem haymowlaw02_of.calls (k : Nat) (A0 : Option Addr) (c0 : Nat) (l0 : List (S51)) (r : List (S47)) (w : World) (hr0 : Kd.C k51 w A0 l0.length l0) (hc0 : l0.length ≤ c0) (h : haymowlaw02_of.f k l0 = some r) :
    Calls Try.prog 11 #[.slice A0 l0.length c0] w fun e w' => ∃ v0_ : Value, e = .returned (v0_) ∧ Kd.S k47 47 w' w.heap.size (fun _ => True) v0_ r ∧ Below w.heap.size w w' := by
  have hu47 := Try.underlying47
  have hu56 := Try.underlying56
  have hu44 := Try.underlying44
  have HR0 := Aside0.mk hr0
  have HC0 := Aside0.mk hc0
  clear hr0 hc0
  have HB := Aside0.mk (Below.refl w.heap.size w)
  have H : (haymowlaw02_of.l0 k l0 ([] : List (S47)) 0) = some r := h
  clear h
  have H' := Aside0.mk H
  clear H
  go_enter Try.func11, Try.ntmps11
  go_wp2
  go_loopg [3, 4] k (fun kq v3 v4 w' => ∃ (x3_1 : List (S47)) (x4_1 : Int), v4 = .int .i64 x4_1 ∧ Aside0 (haymowlaw02_of.l0 kq l0 x3_1 x4_1 = some r) ∧ Aside0 (kq ≤ k) ∧ Aside0 (Kd.S k47 47 w' w.heap.size (fun _ => True) v3 x3_1) ∧ Aside0 (Below w.heap.size w w'))
  case atStart => exact ⟨(([] : List (S47))), (0), (by first | rfl | (simp; done) | (simp [*]; done)), H', ⟨Nat.le_refl _⟩, ⟨by first | exact Kd.S_nil _ _ _ _ _ | exact Kd.N_nil _ _ _ _ _ | exact Kd.V_nil _ _ _ _ _ | exact Kd.Q_nil _ _ _ _ _ | exact Kd.R_nil _ _ _ _ _⟩, ⟨by repeat (first | (with_reducible first | exact HB.out | apply below_alloc | apply pw_below_drewN | apply below_drew1) | exact HB.out)⟩⟩
  case round =>
    clear H'
    try clear c1
    obtain ⟨x3_1, x4_1, rfl, HA, HK1, HO_3, HB⟩ := hrel
    cases gk with
    | zero => exact absurd HA.out (by simp [haymowlaw02_of.l0])
    | succ k1 =>
      have H := HA.out
      clear HA
      simp only [haymowlaw02_of.l0] at H
      by_cases c2 : x4_1 < (l0.length : Int)
      · rw [if_pos c2] at H
        have c2b0 : decide (x4_1 < (l0.length : Int)) = true := decide_eq_true c2
        clear c2
        by_cases c3 : 0 ≤ x4_1
        · rw [if_pos c3] at H
          have c3b0 : decide (0 ≤ x4_1) = true := decide_eq_true c3
          clear c3
          have H' := Aside0.mk H
          clear H
          have p103 : 0 ≤ (x4_1 : Int) := of_decide_eq_true (by first | (with_reducible assumption) | assumption)
          have q103 : x4_1 < (l0.length : Int) := of_decide_eq_true (by first | (with_reducible assumption) | assumption)
          obtain ⟨ad103, A103_1, c103_1, e103, hx103_0, hx103_1, hl103_1, hi103_1⟩ := at_T51 HR0.out x4_1 p103 q103
          cases e103
          replace hx103_0 := (HB.out.cell (World.block_lt_of_cell? w _ hx103_0)).trans hx103_0
          replace hx103_1 := (HB.out.cell (World.block_lt_of_cell? w _ hx103_1)).trans hx103_1
          have HR103_1 := Aside0.mk hi103_1
          have HC103_1 := Aside0.mk hl103_1
          clear hi103_1 hl103_1
          replace p103 := eq_true p103
          replace q103 := eq_true q103
          go_wp2_with (first | ((with_reducible refine gate_dst (N := 5) rfl ?_); refine box_event ?hg (N := 5) ?hd (cs := #[.int .i64 0, .slice none 0 0]) (t := 47) ?hr ?_; (case hd => rfl); (case hg => rfl); (case hr => first | (go_simp; done) | (go_simp; rfl)); intro gb104 hg w4 hbox hb; have n0_ := Aside0.mk (Kd.S_below (Kd.S_elderB (by (with_reducible repeat (first | apply Kd.S_alloc | apply Kd.S_drewN | apply Kd.S_drew)); exact HO_3.out) gb104 (Nat.le_of_eq hg.symm)) hb); have n1_ := Aside0.mk (below_step (by repeat (first | (with_reducible first | exact HB.out | apply below_alloc | apply pw_below_drewN | apply below_drew1) | exact HB.out)) hb); have n2_ := Aside0.mk (hbox); have n3_ := Aside0.mk ((by rw [hg]; exact (below_size (by repeat (first | (with_reducible first | exact HB.out | apply below_alloc | apply pw_below_drewN | apply below_drew1) | exact HB.out))) : w.heap.size ≤ gb104)); have n4_ := Aside0.mk ((by rw [hg]; exact (below_size (by repeat (first | (with_reducible first | exact HB.out | apply below_alloc | apply pw_below_drewN | apply below_drew1) | exact HB.out))) : w.heap.size ≤ gb104)); clear HO_3; clear HB; have HO_3 := n0_; have HB := n1_; have BK104 := n2_; have GW104 := n3_; have GE104 := n4_; clear n0_ n1_ n2_ n3_ n4_; clear hb hbox hg; have hcz5_0 : w4.cell? ⟨gb104, 0, none⟩ = some (.int .i64 0) := (blk_cell BK104.out 0).trans rfl; have hcz5_1 : w4.cell? ⟨gb104, 1, none⟩ = some (.slice none 0 0) := (blk_cell BK104.out 1).trans rfl; have hfz5_0 := blk_frozen BK104.out 0; have hfz5_1 := blk_frozen BK104.out 1))
          go_loopg [6] k1 (fun kq v6 w' => ∃ (x6_2 : Int) (x105001_2 : List (S44)) (u105001 : Value), v6 = .int .i64 x6_2 ∧ Aside0 (haymowlaw02_of.l1 kq l0 x3_1 x4_1 x6_2 ((rd_T51 l0 x4_1).f0) x105001_2 = some r) ∧ Aside0 (kq ≤ k1) ∧ Aside0 (Kd.S k47 47 w' w.heap.size (fun k_ => some k_ ≠ (u105001 : Value).ownBlock ∧ k_ ≠ gb104) u3 x3_1) ∧ Aside0 (Kd.R k44 44 w' w.heap.size (fun _ => True) u105001 x105001_2) ∧ Aside0 (w'.heap[gb104]? = some (.cells #[.int .i64 ((rd_T51 l0 x4_1).f0), u105001] 47 (0, 0))) ∧ Aside0 (Below w.heap.size w w'))
          case atStart => exact ⟨(0), (([] : List (S44))), (.slice none 0 0), (by first | rfl | (simp; done) | (simp [*]; done)), H', ⟨Nat.le_refl _⟩, ⟨by (with_reducible repeat (first | apply Kd.S_alloc | apply Kd.S_drewN | apply Kd.S_drew)); exact Kd.S_mono (Kd.S_far (p := ⟨gb104, 1, none⟩) (Kd.S_far (p := ⟨gb104, 0, none⟩) (Kd.S_mono HO_3.out (fun k_ hk => (⟨hk, hk.2⟩ : _ ∧ k_ ≠ gb104))) (fun _ hk => hk.2) (.int .i64 ((rd_T51 l0 x4_1).f0))) (fun _ hk => hk.2) (.slice none 0 0)) (fun _ hk => ⟨(by simp [Value.ownBlock]), hk.1.2⟩)⟩, ⟨by first | exact Kd.R_nil _ _ _ _ _ | exact Kd.N_nil _ _ _ _ _ | exact Kd.V_nil _ _ _ _ _ | exact Kd.Q_nil _ _ _ _ _ | exact Kd.S_nil _ _ _ _ _⟩, ⟨by (with_reducible repeat (first | refine blk_drewN ?_ _ | refine blk_drew ?_ | refine blk_alloc ?_ _)); refine blk_put (cs := #[.int .i64 ((rd_T51 l0 x4_1).f0), .slice none 0 0]) ?_ 1 _ rfl; (with_reducible repeat (first | refine blk_drewN ?_ _ | refine blk_drew ?_ | refine blk_alloc ?_ _)); refine blk_put (cs := #[.int .i64 0, .slice none 0 0]) ?_ 0 _ rfl; (with_reducible repeat (first | refine blk_drewN ?_ _ | refine blk_drew ?_ | refine blk_alloc ?_ _)); exact BK104.out⟩, ⟨by repeat (first | (with_reducible first | exact HB.out | apply below_alloc | apply pw_below_drewN | apply below_drew1 | refine below_set ?_ GE104.out) | exact HB.out)⟩⟩
          case round =>
            clear H'
            try clear c1
            try clear p1
            try clear q1
            try clear hx1
            try clear c2
            try clear c2b0
            try clear p2
            try clear c3
            try clear c3b0
            try clear hcz5_0
            try clear hcz5_1
            try clear hfz5_0
            try clear hfz5_1
            try clear hx103_0
            try clear hx103_1
            try clear p103
            try clear q103
            obtain ⟨x6_2, x105001_2, u105001, rfl, HA, HK2, HO_3, HO_105001, BK104, HB⟩ := hrel
            cases gk with
            | zero => exact absurd HA.out (by simp [haymowlaw02_of.l1])
            | succ k2 =>
              have H := HA.out
              clear HA
              simp only [haymowlaw02_of.l1] at H
              by_cases c6 : 0 ≤ x4_1
              · rw [if_pos c6] at H
                have c6b0 : decide (0 ≤ x4_1) = true := decide_eq_true c6
                clear c6
                by_cases c7 : x4_1 < (l0.length : Int)
                · rw [if_pos c7] at H
                  have c7b0 : decide (x4_1 < (l0.length : Int)) = true := decide_eq_true c7
                  clear c7
                  by_cases c8 : x6_2 < (((rd_T51 l0 x4_1).f1).length : Int)
                  · rw [if_pos c8] at H
                    have c8b0 : decide (x6_2 < (((rd_T51 l0 x4_1).f1).length : Int)) = true := decide_eq_true c8
                    clear c8
                    by_cases c9 : 0 ≤ x6_2
                    · rw [if_pos c9] at H
                      have c9b0 : decide (0 ≤ x6_2) = true := decide_eq_true c9
                      clear c9
                      by_cases c10 : x105001_2.length < 3518437208883
                      · rw [if_pos c10] at H
                        have LMc10 := Aside0.mk c10
                        clear c10
                        obtain ⟨y109, hy109⟩ : ∃ y_ : List (S44), y_ = (x105001_2 ++ [(⟨(rd_T56 ((rd_T51 l0 x4_1).f1) x6_2).f0, (rd_T56 ((rd_T51 l0 x4_1).f1) x6_2).f1, (rd_T56 ((rd_T51 l0 x4_1).f1) x6_2).f2, (rd_T56 ((rd_T51 l0 x4_1).f1) x6_2).f3, (rd_T56 ((rd_T51 l0 x4_1).f1) x6_2).f4⟩ : S44)]) := ⟨_, rfl⟩
                        replace H : (haymowlaw02_of.l1 k2 l0 x3_1 x4_1 (wrap64 (x6_2 + 1)) ((rd_T51 l0 x4_1).f0) y109) = some r := by first | (rw [hy109]; with_reducible exact H) | (have H2_ := (Option.bind_some _ _).symm.trans H; rw [hy109]; with_reducible exact H2_) | (have H2_ := (Option.bind_some _ _).symm.trans H; with_reducible exact H2_) | with_reducible exact H | (rw [hy109]; exact H) | exact H
                        have Ny109 := Aside0.mk hy109
                        clear hy109
                        have H' := Aside0.mk H
                        clear H
                        have p105 : 0 ≤ (x4_1 : Int) := of_decide_eq_true (by first | (with_reducible assumption) | assumption)
                        have q105 : x4_1 < (l0.length : Int) := of_decide_eq_true (by first | (with_reducible assumption) | assumption)
                        obtain ⟨ad105, A105_1, c105_1, e105, hx105_0, hx105_1, hl105_1, hi105_1⟩ := at_T51 HR0.out x4_1 p105 q105
                        obtain rfl : ad103 = ad105 := (by injection e105)
                        replace hx105_0 := (HB.out.cell (World.block_lt_of_cell? w _ hx105_0)).trans hx105_0
                        replace hx105_1 := (HB.out.cell (World.block_lt_of_cell? w _ hx105_1)).trans hx105_1
                        have HR105_1 := Aside0.mk hi105_1
                        have HC105_1 := Aside0.mk hl105_1
                        clear hi105_1 hl105_1
                        replace p105 := eq_true p105
                        replace q105 := eq_true q105
                        have p106 : 0 ≤ (x4_1 : Int) := of_decide_eq_true (by first | (with_reducible assumption) | assumption)
                        have q106 : x4_1 < (l0.length : Int) := of_decide_eq_true (by first | (with_reducible assumption) | assumption)
                        obtain ⟨ad106, A106_1, c106_1, e106, hx106_0, hx106_1, hl106_1, hi106_1⟩ := at_T51 HR0.out x4_1 p106 q106
                        obtain rfl : ad103 = ad106 := (by injection e106)
                        replace hx106_0 := (HB.out.cell (World.block_lt_of_cell? w _ hx106_0)).trans hx106_0
                        replace hx106_1 := (HB.out.cell (World.block_lt_of_cell? w _ hx106_1)).trans hx106_1
                        have HR106_1 := Aside0.mk hi106_1
                        have HC106_1 := Aside0.mk hl106_1
                        clear hi106_1 hl106_1
                        replace p106 := eq_true p106
                        replace q106 := eq_true q106
                        have ea_ := Option.some.inj (hx105_1.symm.trans hx106_1)
                        injection ea_ with ea_ en_ ec_
                        subst ea_
                        subst ec_
                        clear en_
                        have p107 : 0 ≤ (x6_2 : Int) := of_decide_eq_true (by first | (with_reducible assumption) | assumption)
                        have q107 : x6_2 < (((rd_T51 l0 x4_1).f1).length : Int) := of_decide_eq_true (by first | (with_reducible assumption) | assumption)
                        obtain ⟨ad107, e107, hx107_0, hx107_1, hx107_2, hx107_3, hx107_4⟩ := at_T56 HR106_1.out x6_2 p107 q107
                        cases e107
                        replace hx107_0 := (HB.out.cell (World.block_lt_of_cell? w _ hx107_0)).trans hx107_0
                        replace hx107_1 := (HB.out.cell (World.block_lt_of_cell? w _ hx107_1)).trans hx107_1
                        replace hx107_2 := (HB.out.cell (World.block_lt_of_cell? w _ hx107_2)).trans hx107_2
                        replace hx107_3 := (HB.out.cell (World.block_lt_of_cell? w _ hx107_3)).trans hx107_3
                        replace hx107_4 := (HB.out.cell (World.block_lt_of_cell? w _ hx107_4)).trans hx107_4
                        replace p107 := eq_true p107
                        replace q107 := eq_true q107
                        go_wp2_with (first | ((with_reducible refine gate_dst (N := 7) rfl ?_); refine box_event ?hg (N := 7) ?hd (cs := #[.int .i64 0, .int .i64 0, .int .i64 0, .int .i64 0, .int .i64 0]) (t := 56) ?hr ?_; (case hd => rfl); (case hg => rfl); (case hr => first | (go_simp; done) | (go_simp; rfl)); intro gb108 hg w11 hbox hb; have n0_ := Aside0.mk (Kd.S_below (by (with_reducible repeat (first | apply Kd.S_alloc | apply Kd.S_drewN | apply Kd.S_drew)); exact HO_3.out) hb); have n1_ := Aside0.mk (Kd.R_below (by (with_reducible repeat (first | apply Kd.R_alloc | apply Kd.R_drewN | apply Kd.R_drew)); exact HO_105001.out) hb); have n2_ := Aside0.mk (blk_below (g := gb104) (o := .cells #[.int .i64 ((rd_T51 l0 x4_1).f0), u105001] 47 (0, 0)) (by (with_reducible repeat (first | refine blk_drewN ?_ _ | refine blk_drew ?_ | refine blk_alloc ?_ _)); exact BK104.out) hb); have n3_ := Aside0.mk (below_step (by repeat (first | (with_reducible first | exact HB.out | apply below_alloc | apply pw_below_drewN | apply below_drew1 | refine below_set ?_ GE104.out) | exact HB.out)) hb); have n4_ := Aside0.mk (hbox); have n5_ := Aside0.mk ((by rw [hg]; exact (below_size (by repeat (first | (with_reducible first | exact HB.out | apply below_alloc | apply pw_below_drewN | apply below_drew1 | refine below_set ?_ GE104.out) | exact HB.out))) : w.heap.size ≤ gb108)); have n6_ := Aside0.mk ((by rw [hg]; exact (below_size (by repeat (first | (with_reducible first | exact HB.out | apply below_alloc | apply pw_below_drewN | apply below_drew1 | refine below_set ?_ GE104.out) | exact HB.out))) : w.heap.size ≤ gb108)); have n7_ := Aside0.mk ((by rw [hg]; exact Nat.ne_of_lt (blk_lt (g := gb104) (o := .cells #[.int .i64 ((rd_T51 l0 x4_1).f0), u105001] 47 (0, 0)) (by (with_reducible repeat (first | refine blk_drewN ?_ _ | refine blk_drew ?_ | refine blk_alloc ?_ _)); exact BK104.out)) : gb104 ≠ gb108)); have n8_ := Aside0.mk ((by rw [hg]; exact Nat.ne_of_gt (blk_lt (g := gb104) (o := .cells #[.int .i64 ((rd_T51 l0 x4_1).f0), u105001] 47 (0, 0)) (by (with_reducible repeat (first | refine blk_drewN ?_ _ | refine blk_drew ?_ | refine blk_alloc ?_ _)); exact BK104.out)) : gb108 ≠ gb104)); clear HO_3; clear HO_105001; clear BK104; clear HB; have HO_3 := n0_; have HO_105001 := n1_; have BK104 := n2_; have HB := n3_; have BK108 := n4_; have GW108 := n5_; have GE108 := n6_; have NB104_108 := n7_; have NB108_104 := n8_; clear n0_ n1_ n2_ n3_ n4_ n5_ n6_ n7_ n8_; clear hb hbox hg; have hnb12 := NB108_104.out; have hnc12 := NB104_108.out; have hcz13_0 : w11.cell? ⟨gb108, 0, none⟩ = some (.int .i64 0) := (blk_cell BK108.out 0).trans rfl; have hcz13_1 : w11.cell? ⟨gb108, 1, none⟩ = some (.int .i64 0) := (blk_cell BK108.out 1).trans rfl; have hcz13_2 : w11.cell? ⟨gb108, 2, none⟩ = some (.int .i64 0) := (blk_cell BK108.out 2).trans rfl; have hcz13_3 : w11.cell? ⟨gb108, 3, none⟩ = some (.int .i64 0) := (blk_cell BK108.out 3).trans rfl; have hcz13_4 : w11.cell? ⟨gb108, 4, none⟩ = some (.int .i64 0) := (blk_cell BK108.out 4).trans rfl; have hfz13_0 := blk_frozen BK108.out 0; have hfz13_1 := blk_frozen BK108.out 1; have hfz13_2 := blk_frozen BK108.out 2; have hfz13_3 := blk_frozen BK108.out 3; have hfz13_4 := blk_frozen BK108.out 4; have hcz14_0 : w11.cell? ⟨gb104, 0, none⟩ = some (.int .i64 ((rd_T51 l0 x4_1).f0)) := (blk_cell BK104.out 0).trans rfl; have hcz14_1 : w11.cell? ⟨gb104, 1, none⟩ = some (u105001) := (blk_cell BK104.out 1).trans rfl; have hfz14_0 := blk_frozen BK104.out 0; have hfz14_1 := blk_frozen BK104.out 1) | ((with_reducible refine gate_builtin (b := .append) (xs := #[.tmp 39, .tmp 51]) rfl ?_); at_builtin; refine Kd.R_append k44 (w0 := w) w.heap.size rfl (.tmp 39) (.tmp 51) 45 44 (.agg #[(.int .i64 0), (.int .i64 0), (.int .i64 0), (.int .i64 0), (.int .i64 0)]) 40 rfl Try.underlying45 info44 rfl (by decide) (by omega) u105001 x105001_2 (⟨(rd_T56 ((rd_T51 l0 x4_1).f1) x6_2).f0, (rd_T56 ((rd_T51 l0 x4_1).f1) x6_2).f1, (rd_T56 ((rd_T51 l0 x4_1).f1) x6_2).f2, (rd_T56 ((rd_T51 l0 x4_1).f1) x6_2).f3, (rd_T56 ((rd_T51 l0 x4_1).f1) x6_2).f4⟩ : S44) [.int .i64 ((rd_T56 ((rd_T51 l0 x4_1).f1) x6_2).f0), .int .i64 ((rd_T56 ((rd_T51 l0 x4_1).f1) x6_2).f1), .int .i64 ((rd_T56 ((rd_T51 l0 x4_1).f1) x6_2).f2), .int .i64 ((rd_T56 ((rd_T51 l0 x4_1).f1) x6_2).f3), .int .i64 ((rd_T56 ((rd_T51 l0 x4_1).f1) x6_2).f4)] (fun _ => True) (fun _ => False) rfl (by first | (go_simp; done) | (go_simp; rfl)) ?aP (fun _ hk => hk.elim) ?aF ?aO ?aB ?aS ?aL ?_; (case aP => exact k44_mkM _ _ _ (⟨(rd_T56 ((rd_T51 l0 x4_1).f1) x6_2).f0, (rd_T56 ((rd_T51 l0 x4_1).f1) x6_2).f1, (rd_T56 ((rd_T51 l0 x4_1).f1) x6_2).f2, (rd_T56 ((rd_T51 l0 x4_1).f1) x6_2).f3, (rd_T56 ((rd_T51 l0 x4_1).f1) x6_2).f4⟩ : S44)); (case aB => exact (by repeat (first | (with_reducible first | exact HB.out | apply below_alloc | apply pw_below_drewN | apply below_drew1 | refine below_set ?_ GE104.out | refine below_set ?_ GE108.out) | exact HB.out))); (case aF => exact (fun _ _ => trivial)); (case aO => exact (by (with_reducible repeat (first | apply Kd.R_alloc | apply Kd.R_drewN | apply Kd.R_drew)); exact Kd.R_mono (Kd.R_far (p := ⟨gb108, 4, none⟩) (Kd.R_far (p := ⟨gb108, 3, none⟩) (Kd.R_far (p := ⟨gb108, 2, none⟩) (Kd.R_far (p := ⟨gb108, 1, none⟩) (Kd.R_far (p := ⟨gb108, 0, none⟩) (Kd.R_types HO_105001.out BK108.out (by decide)) (fun _ hk => hk.2) (.int .i64 ((rd_T56 ((rd_T51 l0 x4_1).f1) x6_2).f0))) (fun _ hk => hk.2) (.int .i64 ((rd_T56 ((rd_T51 l0 x4_1).f1) x6_2).f1))) (fun _ hk => hk.2) (.int .i64 ((rd_T56 ((rd_T51 l0 x4_1).f1) x6_2).f2))) (fun _ hk => hk.2) (.int .i64 ((rd_T56 ((rd_T51 l0 x4_1).f1) x6_2).f3))) (fun _ hk => hk.2) (.int .i64 ((rd_T56 ((rd_T51 l0 x4_1).f1) x6_2).f4))) (fun _ hk => trivial))); (case aS => exact (below_size (by repeat (first | (with_reducible first | exact HB.out | apply below_alloc | apply pw_below_drewN | apply below_drew1 | refine below_set ?_ GE104.out | refine below_set ?_ GE108.out) | exact HB.out)))); (case aL => have := LMc10.out; omega); intro v110 w15 ho hb hg hat; rw [← Ny109.out] at ho; have n0_ := Aside0.mk (Kd.S_after (ok := (fun k_ => k_ ≠ gb104)) (by (with_reducible repeat (first | apply Kd.S_alloc | apply Kd.S_drewN | apply Kd.S_drew)); exact Kd.S_mono (Kd.S_far (p := ⟨gb108, 4, none⟩) (Kd.S_far (p := ⟨gb108, 3, none⟩) (Kd.S_far (p := ⟨gb108, 2, none⟩) (Kd.S_far (p := ⟨gb108, 1, none⟩) (Kd.S_far (p := ⟨gb108, 0, none⟩) (Kd.S_types HO_3.out BK108.out (by decide)) (fun _ hk => hk.2) (.int .i64 ((rd_T56 ((rd_T51 l0 x4_1).f1) x6_2).f0))) (fun _ hk => hk.2) (.int .i64 ((rd_T56 ((rd_T51 l0 x4_1).f1) x6_2).f1))) (fun _ hk => hk.2) (.int .i64 ((rd_T56 ((rd_T51 l0 x4_1).f1) x6_2).f2))) (fun _ hk => hk.2) (.int .i64 ((rd_T56 ((rd_T51 l0 x4_1).f1) x6_2).f3))) (fun _ hk => hk.2) (.int .i64 ((rd_T56 ((rd_T51 l0 x4_1).f1) x6_2).f4))) (fun _ hk => ⟨hk.1.2, hk.1.1⟩)) hg hat); have n1_ := Aside0.mk (blk_grown (g := gb104) (o := .cells #[.int .i64 ((rd_T51 l0 x4_1).f0), u105001] 47 (0, 0)) (by (with_reducible repeat (first | refine blk_drewN ?_ _ | refine blk_drew ?_ | refine blk_alloc ?_ _)); refine blk_far ?_ NB104_108.out _; (with_reducible repeat (first | refine blk_drewN ?_ _ | refine blk_drew ?_ | refine blk_alloc ?_ _)); refine blk_far ?_ NB104_108.out _; (with_reducible repeat (first | refine blk_drewN ?_ _ | refine blk_drew ?_ | refine blk_alloc ?_ _)); refine blk_far ?_ NB104_108.out _; (with_reducible repeat (first | refine blk_drewN ?_ _ | refine blk_drew ?_ | refine blk_alloc ?_ _)); refine blk_far ?_ NB104_108.out _; (with_reducible repeat (first | refine blk_drewN ?_ _ | refine blk_drew ?_ | refine blk_alloc ?_ _)); refine blk_far ?_ NB104_108.out _; (with_reducible repeat (first | refine blk_drewN ?_ _ | refine blk_drew ?_ | refine blk_alloc ?_ _)); exact BK104.out) hg (Kd.R_ne HO_105001.out BK104.out (by decide))); have n2_ := Aside0.mk (blk_grown (g := gb108) (o := .cells #[.int .i64 ((rd_T56 ((rd_T51 l0 x4_1).f1) x6_2).f0), .int .i64 ((rd_T56 ((rd_T51 l0 x4_1).f1) x6_2).f1), .int .i64 ((rd_T56 ((rd_T51 l0 x4_1).f1) x6_2).f2), .int .i64 ((rd_T56 ((rd_T51 l0 x4_1).f1) x6_2).f3), .int .i64 ((rd_T56 ((rd_T51 l0 x4_1).f1) x6_2).f4)] 56 (0, 0)) (by (with_reducible repeat (first | refine blk_drewN ?_ _ | refine blk_drew ?_ | refine blk_alloc ?_ _)); refine blk_put (cs := #[.int .i64 ((rd_T56 ((rd_T51 l0 x4_1).f1) x6_2).f0), .int .i64 ((rd_T56 ((rd_T51 l0 x4_1).f1) x6_2).f1), .int .i64 ((rd_T56 ((rd_T51 l0 x4_1).f1) x6_2).f2), .int .i64 ((rd_T56 ((rd_T51 l0 x4_1).f1) x6_2).f3), .int .i64 0]) ?_ 4 _ rfl; (with_reducible repeat (first | refine blk_drewN ?_ _ | refine blk_drew ?_ | refine blk_alloc ?_ _)); refine blk_put (cs := #[.int .i64 ((rd_T56 ((rd_T51 l0 x4_1).f1) x6_2).f0), .int .i64 ((rd_T56 ((rd_T51 l0 x4_1).f1) x6_2).f1), .int .i64 ((rd_T56 ((rd_T51 l0 x4_1).f1) x6_2).f2), .int .i64 0, .int .i64 0]) ?_ 3 _ rfl; (with_reducible repeat (first | refine blk_drewN ?_ _ | refine blk_drew ?_ | refine blk_alloc ?_ _)); refine blk_put (cs := #[.int .i64 ((rd_T56 ((rd_T51 l0 x4_1).f1) x6_2).f0), .int .i64 ((rd_T56 ((rd_T51 l0 x4_1).f1) x6_2).f1), .int .i64 0, .int .i64 0, .int .i64 0]) ?_ 2 _ rfl; (with_reducible repeat (first | refine blk_drewN ?_ _ | refine blk_drew ?_ | refine blk_alloc ?_ _)); refine blk_put (cs := #[.int .i64 ((rd_T56 ((rd_T51 l0 x4_1).f1) x6_2).f0), .int .i64 0, .int .i64 0, .int .i64 0, .int .i64 0]) ?_ 1 _ rfl; (with_reducible repeat (first | refine blk_drewN ?_ _ | refine blk_drew ?_ | refine blk_alloc ?_ _)); refine blk_put (cs := #[.int .i64 0, .int .i64 0, .int .i64 0, .int .i64 0, .int .i64 0]) ?_ 0 _ rfl; (with_reducible repeat (first | refine blk_drewN ?_ _ | refine blk_drew ?_ | refine blk_alloc ?_ _)); exact BK108.out) hg (Kd.R_ne HO_105001.out BK108.out (by decide))); have n3_ := Aside0.mk (hb); have n4_ := Aside0.mk (ho); clear HO_3; clear BK104; clear BK108; clear HB; clear HO_105001; have HO_3 := n0_; have BK104 := n1_; have BK108 := n2_; have HB := n3_; have HO111 := n4_; clear n0_ n1_ n2_ n3_ n4_; clear ho hb hg hat; obtain ⟨Ao16, co16, eo16⟩ := Kd.R_slice HO111.out; subst eo16; have hcz17_0 : w15.cell? ⟨gb104, 0, none⟩ = some (.int .i64 ((rd_T51 l0 x4_1).f0)) := (blk_cell BK104.out 0).trans rfl; have hcz17_1 : w15.cell? ⟨gb104, 1, none⟩ = some (u105001) := (blk_cell BK104.out 1).trans rfl; have hfz17_0 := blk_frozen BK104.out 0; have hfz17_1 := blk_frozen BK104.out 1))
                        go_roundg k2
                        case measure => have := HK1.out; have := HK2.out; omega
                        case rel => exact ⟨(wrap64 (x6_2 + 1)), (y109), (.slice Ao16 y109.length co16), (by first | rfl | (simp; done) | (simp [*]; done)), H', ⟨by have := HK1.out; have := HK2.out; omega⟩, ⟨by (with_reducible repeat (first | apply Kd.S_alloc | apply Kd.S_drewN | apply Kd.S_drew)); exact Kd.S_mono (Kd.S_far (p := ⟨gb104, 1, none⟩) (Kd.S_mono HO_3.out (fun k_ hk => (⟨hk, hk.1⟩ : _ ∧ k_ ≠ gb104))) (fun _ hk => hk.2) (.slice Ao16 y109.length co16)) (fun _ hk => ⟨hk.1.2, hk.1.1⟩)⟩, ⟨by (with_reducible repeat (first | apply Kd.R_alloc | apply Kd.R_drewN | apply Kd.R_drew)); exact Kd.R_mono (Kd.R_far (p := ⟨gb104, 1, none⟩) (Kd.R_types HO111.out BK104.out (by decide)) (fun _ hk => hk.2) (.slice Ao16 y109.length co16)) (fun _ hk => trivial)⟩, ⟨by (with_reducible repeat (first | refine blk_drewN ?_ _ | refine blk_drew ?_ | refine blk_alloc ?_ _)); refine blk_put (cs := #[.int .i64 ((rd_T51 l0 x4_1).f0), u105001]) ?_ 1 _ rfl; (with_reducible repeat (first | refine blk_drewN ?_ _ | refine blk_drew ?_ | refine blk_alloc ?_ _)); exact BK104.out⟩, ⟨by repeat (first | (with_reducible first | exact HB.out | apply below_alloc | apply pw_below_drewN | apply below_drew1 | refine below_set ?_ GE104.out | refine below_set ?_ GE108.out) | exact HB.out)⟩⟩
                      · rw [if_neg c10] at H
                        exact absurd H (by simp)
                    · rw [if_neg c9] at H
                      exact absurd H (by simp)
                  · rw [if_neg c8] at H
                    have c8b0 : decide (x6_2 < (((rd_T51 l0 x4_1).f1).length : Int)) = false := decide_eq_false c8
                    clear c8
                    by_cases c18 : x3_1.length < 4398046511104
                    · rw [if_pos c18] at H
                      have LMc18 := Aside0.mk c18
                      clear c18
                      obtain ⟨y112, hy112⟩ : ∃ y_ : List (S47), y_ = (x3_1 ++ [(⟨((rd_T51 l0 x4_1).f0), x105001_2⟩ : S47)]) := ⟨_, rfl⟩
                      replace H : (haymowlaw02_of.l0 k2 l0 y112 (wrap64 (x4_1 + 1))) = some r := by first | (rw [hy112]; with_reducible exact H) | (have H2_ := (Option.bind_some _ _).symm.trans H; rw [hy112]; with_reducible exact H2_) | (have H2_ := (Option.bind_some _ _).symm.trans H; with_reducible exact H2_) | with_reducible exact H | (rw [hy112]; exact H) | exact H
                      have Ny112 := Aside0.mk hy112
                      clear hy112
                      have H' := Aside0.mk H
                      clear H
                      have p105 : 0 ≤ (x4_1 : Int) := of_decide_eq_true (by first | (with_reducible assumption) | assumption)
                      have q105 : x4_1 < (l0.length : Int) := of_decide_eq_true (by first | (with_reducible assumption) | assumption)
                      obtain ⟨ad105, A105_1, c105_1, e105, hx105_0, hx105_1, hl105_1, hi105_1⟩ := at_T51 HR0.out x4_1 p105 q105
                      obtain rfl : ad103 = ad105 := (by injection e105)
                      replace hx105_0 := (HB.out.cell (World.block_lt_of_cell? w _ hx105_0)).trans hx105_0
                      replace hx105_1 := (HB.out.cell (World.block_lt_of_cell? w _ hx105_1)).trans hx105_1
                      have HR105_1 := Aside0.mk hi105_1
                      have HC105_1 := Aside0.mk hl105_1
                      clear hi105_1 hl105_1
                      replace p105 := eq_true p105
                      replace q105 := eq_true q105
                      have hcz19_0 : wr.cell? ⟨gb104, 0, none⟩ = some (.int .i64 ((rd_T51 l0 x4_1).f0)) := (blk_cell BK104.out 0).trans rfl
                      have hcz19_1 : wr.cell? ⟨gb104, 1, none⟩ = some (u105001) := (blk_cell BK104.out 1).trans rfl
                      have hfz19_0 := blk_frozen BK104.out 0
                      have hfz19_1 := blk_frozen BK104.out 1
                      obtain ⟨Ao21, co21, eo21⟩ := Kd.R_slice HO_105001.out
                      subst eo21
                      go_wp2_with (first | ((with_reducible refine gate_builtin (b := .append) (xs := #[.tmp 54, .tmp 56]) rfl ?_); at_builtin; refine Kd.S_append k47 (w0 := w) w.heap.size rfl (.tmp 54) (.tmp 56) 28 47 (.agg #[(.int .i64 0), (.slice none 0 0)]) 32 rfl Try.underlying28 info47 rfl (by decide) (by omega) u3 x3_1 (⟨((rd_T51 l0 x4_1).f0), x105001_2⟩ : S47) [.int .i64 ((rd_T51 l0 x4_1).f0), .slice Ao21 x105001_2.length co21] (fun k_ => k_ ≠ gb104) (fun k_ => some k_ = (.slice Ao21 x105001_2.length co21 : Value).ownBlock) rfl rfl ?aP (fun k_ hk_ => ((Kd.R_mono (ok' := fun k_ => ((fun k_ => k_ ≠ gb104)) k_ ∧ some k_ ≠ (u3 : Value).ownBlock) (Kd.R_types (Kd.R_apart' (HO_105001.out) (Kd.S_typed HO_3.out) (by decide)) BK104.out (by decide)) (fun k_ hk => ⟨hk.2, hk.1.2⟩))).1 k_ hk_.symm) ?aF ?aO ?aB ?aS ?aL ?_; (case aP => exact k47_mkM _ _ _ (⟨((rd_T51 l0 x4_1).f0), x105001_2⟩ : S47) (Kd.R_mono (Kd.R_tight rfl (Kd.R_mono (ok' := fun k_ => ((fun k_ => k_ ≠ gb104)) k_ ∧ some k_ ≠ (u3 : Value).ownBlock) (Kd.R_types (Kd.R_apart' (HO_105001.out) (Kd.S_typed HO_3.out) (by decide)) BK104.out (by decide)) (fun k_ hk => ⟨hk.2, hk.1.2⟩))) (fun _ h_ => h_))); (case aB => exact (by repeat (first | (with_reducible first | exact HB.out | apply below_alloc | apply pw_below_drewN | apply below_drew1 | refine below_set ?_ GE104.out) | exact HB.out))); (case aF => exact (fun k_ hk => Kd.freshB (g := gb104) (o := .cells #[.int .i64 ((rd_T51 l0 x4_1).f0), .slice Ao21 x105001_2.length co21] 47 (0, 0)) (by (with_reducible repeat (first | refine blk_drewN ?_ _ | refine blk_drew ?_ | refine blk_alloc ?_ _)); exact BK104.out) k_ hk)); (case aO => exact (by (with_reducible repeat (first | apply Kd.S_alloc | apply Kd.S_drewN | apply Kd.S_drew)); exact Kd.S_mono HO_3.out (fun k_ hk => ⟨hk.2, fun e_ => hk.1 e_⟩))); (case aS => exact (below_size (by repeat (first | (with_reducible first | exact HB.out | apply below_alloc | apply pw_below_drewN | apply below_drew1 | refine below_set ?_ GE104.out) | exact HB.out)))); (case aL => have := LMc18.out; omega); intro v113 w20 ho hb hg hat; rw [← Ny112.out] at ho; have n0_ := Aside0.mk (blk_grown (g := gb104) (o := .cells #[.int .i64 ((rd_T51 l0 x4_1).f0), .slice Ao21 x105001_2.length co21] 47 (0, 0)) (by (with_reducible repeat (first | refine blk_drewN ?_ _ | refine blk_drew ?_ | refine blk_alloc ?_ _)); exact BK104.out) hg (Kd.S_away HO_3.out (fun _ hk => hk.2))); have n1_ := Aside0.mk (hb); have n2_ := Aside0.mk (ho); clear BK104; clear HB; clear HO_3; clear HO_105001; have BK104 := n0_; have HB := n1_; have HO114 := n2_; clear n0_ n1_ n2_; clear ho hb hg hat))
                      go_roundg k2
                      case measure => have := HK1.out; have := HK2.out; omega
                      case rel => exact ⟨(y112), (wrap64 (x4_1 + 1)), (by first | rfl | (simp; done) | (simp [*]; done)), H', ⟨by have := HK1.out; have := HK2.out; omega⟩, ⟨by (with_reducible repeat (first | apply Kd.S_alloc | apply Kd.S_drewN | apply Kd.S_drew)); exact Kd.S_mono HO114.out (fun _ hk => trivial)⟩, ⟨by repeat (first | (with_reducible first | exact HB.out | apply below_alloc | apply pw_below_drewN | apply below_drew1 | refine below_set ?_ GE104.out) | exact HB.out)⟩⟩
                    · rw [if_neg c18] at H
                      exact absurd H (by simp)
                · rw [if_neg c7] at H
                  exact absurd H (by simp)
              · rw [if_neg c6] at H
                exact absurd H (by simp)
        · rw [if_neg c3] at H
          exact absurd H (by simp)
      · rw [if_neg c2] at H
        have c2b0 : decide (x4_1 < (l0.length : Int)) = false := decide_eq_false c2
        clear c2
        obtain rfl := Option.some.inj H
        go_wp2
        go_ret
        exact ⟨_, by first | rfl | (simp [errW_none, errW_some] <;> rfl) | (simp [*, errW_none, errW_some] <;> rfl), by (with_reducible repeat (first | apply Kd.S_alloc | apply Kd.S_drewN | apply Kd.S_drew)); exact HO_3.out, by repeat (first | (with_reducible first | exact HB.out | apply below_alloc | apply pw_below_drewN | apply below_drew1) | exact HB.out)⟩

end Go.Proofs.Ytojnimaiggobeaa.H
