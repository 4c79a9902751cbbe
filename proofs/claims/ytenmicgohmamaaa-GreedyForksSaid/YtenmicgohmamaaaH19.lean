-- made by this session's gen.py over the kit's print.py; not trusted: Lean checks it
import Derived.Test.YtenmicgohmamaaaH0
import Derived.Test.YtenmicgohmamaaaH3
namespace Go.Proofs.Ytenmicgohmamaaa.H
open Go.RowKit Go.Proofs.YtenmicgohmamaaaW.PrintWords Go.Proofs.YtenmicgohmamaaaW.PrintLast Go.Proofs.YtenmicgohmamaaaW.PrintMore
attribute [local go_sem] max2_int min2_int max_two min_two max_three min_three max_four min_four   -- for this text's walks alone
set_option linter.unusedVariables false
set_option linter.unusedSimpArgs false

/-! ### graph_Depths: function 18 -/
mutual
def graph_Depths.l0 : Nat → List Int → List (List Int) → Int → Int → Option (List Int)
  | 0, _, _, _, _ => none
  | k + 1, x3, x13, x14, x15 => if x15 < x14 then (if 0 ≤ x15 then (if x15 < (x13.length : Int) then (graph_Depths.l1 k x3 0 x13 x14 x15 (rd_L1 x13 x15) ((rd_L1 x13 x15).length : Int) 0) else (none)) else (none)) else (some x3)
def graph_Depths.l1 : Nat → List Int → Int → List (List Int) → Int → Int → List Int → Int → Int → Option (List Int)
  | 0, _, _, _, _, _, _, _, _ => none
  | k + 1, x3, x6, x13, x14, x15, x19, x20, x21 => if x21 < x20 then (if 0 ≤ x21 then (if x21 < (x19.length : Int) then (if 0 ≤ (rd x19 x21) then (if (rd x19 x21) < (x3.length : Int) then (graph_Depths.l1 k x3 (mx x6 (rd x3 (rd x19 x21))) x13 x14 x15 x19 x20 (wrap64 (x21 + 1))) else (none)) else (none)) else (none)) else (none)) else (if x3.length < 17592186044416 then (graph_Depths.l0 k (x3 ++ [wrap64 (x6 + 1)]) x13 x14 (wrap64 (x15 + 1))) else (none))
end
def graph_Depths.f (k : Nat) (l0_0 : List (List Int)) : Option (List Int) := (graph_Right.f k l0_0).bind fun t211 => (if t211 = true then (graph_Depths.l0 k ([] : List Int) l0_0 (l0_0.length : Int) 0) else (some ([] : List Int)))
theorem graph_Depths.mono_l : ∀ k, (∀ y0 y1 y2 y3, LeO (graph_Depths.l0 k y0 y1 y2 y3) (graph_Depths.l0 (k + 1) y0 y1 y2 y3)) ∧ (∀ y0 y1 y2 y3 y4 y5 y6 y7, LeO (graph_Depths.l1 k y0 y1 y2 y3 y4 y5 y6 y7) (graph_Depths.l1 (k + 1) y0 y1 y2 y3 y4 y5 y6 y7))
  | 0 => ⟨fun _ _ _ _ r h => by simp [graph_Depths.l0] at h, fun _ _ _ _ _ _ _ _ r h => by simp [graph_Depths.l1] at h⟩
  | k + 1 => by
    obtain ⟨ih0, ih1⟩ := graph_Depths.mono_l k
    refine ⟨?_, ?_⟩
    · intro y0 y1 y2 y3
      unfold graph_Depths.l0
      repeat' first
      | (with_reducible exact ih0 _ _ _ _)
      | (with_reducible exact ih1 _ _ _ _ _ _ _ _)
      | (with_reducible exact graph_Right.mono _ _)
      | (with_reducible exact LeO.refl _)
      | (with_reducible exact LeO.none _)
      | (with_reducible refine LeO.ite ?_ ?_)
      | (with_reducible refine LeO.bind ?_ (fun _ => ?_))
      | exact ih0 _ _ _ _
      | exact ih1 _ _ _ _ _ _ _ _
      | exact graph_Right.mono _ _
      | exact LeO.none _
      | refine LeO.ite ?_ ?_
      | refine LeO.bind ?_ (fun _ => ?_)
    · intro y0 y1 y2 y3 y4 y5 y6 y7
      unfold graph_Depths.l1
      repeat' first
      | (with_reducible exact ih0 _ _ _ _)
      | (with_reducible exact ih1 _ _ _ _ _ _ _ _)
      | (with_reducible exact graph_Right.mono _ _)
      | (with_reducible exact LeO.refl _)
      | (with_reducible exact LeO.none _)
      | (with_reducible refine LeO.ite ?_ ?_)
      | (with_reducible refine LeO.bind ?_ (fun _ => ?_))
      | exact ih0 _ _ _ _
      | exact ih1 _ _ _ _ _ _ _ _
      | exact graph_Right.mono _ _
      | exact LeO.none _
      | refine LeO.ite ?_ ?_
      | refine LeO.bind ?_ (fun _ => ?_)
theorem graph_Depths.mono : ∀ a0 k, LeO (graph_Depths.f k a0) (graph_Depths.f (k + 1) a0) := by
  intro a0 k
  obtain ⟨ih0, ih1⟩ := graph_Depths.mono_l k
  unfold graph_Depths.f
  repeat' first
      | (with_reducible exact ih0 _ _ _ _)
      | (with_reducible exact ih1 _ _ _ _ _ _ _ _)
      | (with_reducible exact graph_Right.mono _ _)
      | (with_reducible exact LeO.refl _)
      | (with_reducible exact LeO.none _)
      | (with_reducible refine LeO.ite ?_ ?_)
      | (with_reducible refine LeO.bind ?_ (fun _ => ?_))
      | exact ih0 _ _ _ _
      | exact ih1 _ _ _ _ _ _ _ _
      | exact graph_Right.mono _ _
      | exact LeO.none _
      | refine LeO.ite ?_ ?_
      | refine LeO.bind ?_ (fun _ => ?_)
set_option maxHeartbeats 8000000 in
set_option maxRecDepth 100000 in
theorem graph_Depths.calls (k : Nat) (A0_0 : Option Addr) (c0_0 : Nat) (l0_0 : List (List Int)) (r : List Int) (w : World) (hr0_0 : Kd.C (Kd.slice 3 (Kd.int .i64)) w A0_0 l0_0.length l0_0) (hc0_0 : l0_0.length ≤ c0_0) (h : graph_Depths.f k l0_0 = some r) :
    Calls Try.prog 18 #[.agg #[.slice A0_0 l0_0.length c0_0]] w fun e w' => ∃ v0_ : Value, e = .returned (v0_) ∧ Kd.R (Kd.int .i64) 3 w' w.heap.size (fun _ => True) v0_ r ∧ Below w.heap.size w w' := by
  have hu29 := Try.underlying29
  have HR0_0 := Aside0.mk hr0_0
  have HC0_0 := Aside0.mk hc0_0
  clear hr0_0 hc0_0
  have HB := Aside0.mk (Below.refl w.heap.size w)
  have H : ((graph_Right.f k l0_0).bind fun t211 => (if t211 = true then (graph_Depths.l0 k ([] : List Int) l0_0 (l0_0.length : Int) 0) else (some ([] : List Int)))) = some r := h
  clear h
  replace H := Option.bind_eq_some_iff.mp H
  obtain ⟨t211, A20, H⟩ := H
  replace H : (if t211 = true then (graph_Depths.l0 k ([] : List Int) l0_0 (l0_0.length : Int) 0) else (some ([] : List Int))) = some r := H
  have A2 := Aside0.mk A20
  clear A20
  by_cases c3 : t211 = true
  · subst c3
    have H1 : (graph_Depths.l0 k ([] : List Int) l0_0 (l0_0.length : Int) 0) = some r := by rw [if_pos rfl] at H; exact H
    clear H
    have H := H1
    clear H1
    have H' := Aside0.mk H
    clear H
    go_enter Try.func18, Try.ntmps18
    go_wp2_with (first | ((with_reducible refine gate_dst (N := 1) rfl ?_); refine box_event ?hg (N := 1) ?hd (cs := #[.slice A0_0 l0_0.length c0_0]) (t := 29) ?hr ?_; (case hd => rfl); (case hg => rfl); (case hr => first | (go_simp; done) | (go_simp; rfl)); intro gb210 hg w4 hbox hb; have n0_ := Aside0.mk (below_step (by repeat (first | (with_reducible first | exact HB.out | apply below_alloc | apply pw_below_drewN | apply below_drew1) | exact HB.out)) hb); have n1_ := Aside0.mk (hbox); have n2_ := Aside0.mk ((by rw [hg]; exact (below_size (by repeat (first | (with_reducible first | exact HB.out | apply below_alloc | apply pw_below_drewN | apply below_drew1) | exact HB.out))) : w.heap.size ≤ gb210)); have n3_ := Aside0.mk ((by rw [hg]; exact (below_size (by repeat (first | (with_reducible first | exact HB.out | apply below_alloc | apply pw_below_drewN | apply below_drew1) | exact HB.out))) : w.heap.size ≤ gb210)); clear HB; have HB := n0_; have BK210 := n1_; have GW210 := n2_; have GE210 := n3_; clear n0_ n1_ n2_ n3_; clear hb hbox hg; have hcz5_0 : w4.cell? ⟨gb210, 0, none⟩ = some (.slice A0_0 l0_0.length c0_0) := (blk_cell BK210.out 0).trans rfl; have hfz5_0 := blk_frozen BK210.out 0) | ((with_reducible refine gate_callee (f := 26) rfl ?_); refine goesL_ (some 10) rfl rfl Try.func26 (by kernel_rfl) rfl #[.agg #[.slice A0_0 l0_0.length c0_0]] rfl (by (try simp only [List.map_toArray, List.map_cons, List.map_nil]); first | done | rfl | (simp only [List.length_drop, List.length_take]; rfl)) ?_; (with_reducible refine (graph_Right.calls k _ _ l0_0 true _ ?side1 ?side2 A2.out).mono ?_); (case side1 => repeat (first | exact (Kd.C_below HR0_0.out HB.out) | (with_reducible refine Kd.C_alloc ?_ _) | (with_reducible refine Kd.C_drewN ?_ _) | (with_reducible refine Kd.C_drew ?_))); (case side2 => exact HC0_0.out); rintro e w6 ⟨rfl, hb⟩; refine ⟨_, rfl, ?_⟩; have n0_ := Aside0.mk (blk_below (g := gb210) (o := .cells #[.slice A0_0 l0_0.length c0_0] 29 (0, 0)) (by (with_reducible repeat (first | refine blk_drewN ?_ _ | refine blk_drew ?_ | refine blk_alloc ?_ _)); exact BK210.out) hb); have n1_ := Aside0.mk (below_step (by repeat (first | (with_reducible first | exact HB.out | apply below_alloc | apply pw_below_drewN | apply below_drew1 | refine below_set ?_ GE210.out) | exact HB.out)) hb); clear BK210; clear HB; have BK210 := n0_; have HB := n1_; clear n0_ n1_; (try clear hb); (try clear hb2); (try clear hk); (try clear hi); have hcz7_0 : w6.cell? ⟨gb210, 0, none⟩ = some (.slice A0_0 l0_0.length c0_0) := (blk_cell BK210.out 0).trans rfl; have hfz7_0 := blk_frozen BK210.out 0))
    go_loopg [3, 15] k (fun kq v3 v15 w' => ∃ (x3_1 : List Int) (x15_1 : Int), v15 = .int .i64 x15_1 ∧ Aside0 (graph_Depths.l0 kq x3_1 l0_0 (l0_0.length : Int) x15_1 = some r) ∧ Aside0 (kq ≤ k) ∧ Aside0 (Kd.R (Kd.int .i64) 3 w' w.heap.size (fun _ => True) v3 x3_1) ∧ Aside0 (w'.heap[gb210]? = some (.cells #[(.slice A0_0 l0_0.length c0_0)] 29 (0, 0))) ∧ Aside0 (Below w.heap.size w w'))
    case atStart => exact ⟨(([] : List Int)), (0), (by first | rfl | (simp; done) | (simp [*]; done)), H', ⟨Nat.le_refl _⟩, ⟨by first | exact Kd.R_nil _ _ _ _ _ | exact Kd.N_nil _ _ _ _ _ | exact Kd.V_nil _ _ _ _ _ | exact Kd.Q_nil _ _ _ _ _ | exact Kd.S_nil _ _ _ _ _⟩, ⟨by (with_reducible repeat (first | refine blk_drewN ?_ _ | refine blk_drew ?_ | refine blk_alloc ?_ _)); exact BK210.out⟩, ⟨by repeat (first | (with_reducible first | exact HB.out | apply below_alloc | apply pw_below_drewN | apply below_drew1 | refine below_set ?_ GE210.out) | exact HB.out)⟩⟩
    case round =>
      clear H'
      try clear c1
      try clear c2
      try clear p2
      try clear c3
      try clear hcz5_0
      try clear hcz7_0
      try clear hfz5_0
      try clear hfz7_0
      obtain ⟨x3_1, x15_1, rfl, HA, HK1, HO_3, BK210, HB⟩ := hrel
      cases gk with
      | zero => exact absurd HA.out (by simp [graph_Depths.l0])
      | succ k1 =>
        have H := HA.out
        clear HA
        simp only [graph_Depths.l0] at H
        by_cases c8 : x15_1 < (l0_0.length : Int)
        · rw [if_pos c8] at H
          have c8b0 : decide (x15_1 < (l0_0.length : Int)) = true := decide_eq_true c8
          clear c8
          by_cases c9 : 0 ≤ x15_1
          · rw [if_pos c9] at H
            have c9b0 : decide (0 ≤ x15_1) = true := decide_eq_true c9
            clear c9
            by_cases c10 : x15_1 < (l0_0.length : Int)
            · rw [if_pos c10] at H
              have c10b0 : decide (x15_1 < (l0_0.length : Int)) = true := decide_eq_true c10
              clear c10
              have H' := Aside0.mk H
              clear H
              have p212 : 0 ≤ (x15_1 : Int) := of_decide_eq_true (by first | (with_reducible assumption) | assumption)
              have q212 : x15_1 < (l0_0.length : Int) := of_decide_eq_true (by first | (with_reducible assumption) | assumption)
              obtain ⟨ad212, A212_0, c212_0, e212, hx212_0, hl212_0, hi212_0⟩ := at_L1 HR0_0.out x15_1 p212 q212
              cases e212
              replace hx212_0 := (HB.out.cell (World.block_lt_of_cell? w _ hx212_0)).trans hx212_0
              have HR212_0 := Aside0.mk hi212_0
              have HC212_0 := Aside0.mk hl212_0
              clear hi212_0 hl212_0
              replace p212 := eq_true p212
              replace q212 := eq_true q212
              go_wp2
              go_loopg [6, 21] k1 (fun kq v6 v21 w' => ∃ (x6_2 : Int) (x21_2 : Int), v6 = .int .i64 x6_2 ∧ v21 = .int .i64 x21_2 ∧ Aside0 (graph_Depths.l1 kq x3_1 x6_2 l0_0 (l0_0.length : Int) x15_1 (rd_L1 l0_0 x15_1) ((rd_L1 l0_0 x15_1).length : Int) x21_2 = some r) ∧ Aside0 (kq ≤ k1) ∧ Aside0 (Kd.R (Kd.int .i64) 3 w' w.heap.size (fun _ => True) u3 x3_1) ∧ Aside0 (w'.heap[gb210]? = some (.cells #[(.slice (some ad212) l0_0.length c0_0)] 29 (0, 0))) ∧ Aside0 (Below w.heap.size w w'))
              case atStart => exact ⟨(0), (0), (by first | rfl | (simp; done) | (simp [*]; done)), (by first | rfl | (simp; done) | (simp [*]; done)), H', ⟨Nat.le_refl _⟩, ⟨by (with_reducible repeat (first | apply Kd.R_alloc | apply Kd.R_drewN | apply Kd.R_drew)); exact HO_3.out⟩, ⟨by (with_reducible repeat (first | refine blk_drewN ?_ _ | refine blk_drew ?_ | refine blk_alloc ?_ _)); exact BK210.out⟩, ⟨by repeat (first | (with_reducible first | exact HB.out | apply below_alloc | apply pw_below_drewN | apply below_drew1 | refine below_set ?_ GE210.out) | exact HB.out)⟩⟩
              case round =>
                clear H'
                try clear c1
                try clear c2
                try clear p2
                try clear q2
                try clear hx2
                try clear c3
                try clear c8
                try clear c8b0
                try clear c9
                try clear c9b0
                try clear c10
                try clear c10b0
                try clear hcz5_0
                try clear hcz7_0
                try clear hfz5_0
                try clear hfz7_0
                try clear hx212_0
                try clear p2
                try clear p212
                try clear q212
                obtain ⟨x6_2, x21_2, rfl, rfl, HA, HK2, HO_3, BK210, HB⟩ := hrel
                cases gk with
                | zero => exact absurd HA.out (by simp [graph_Depths.l1])
                | succ k2 =>
                  have H := HA.out
                  clear HA
                  simp only [graph_Depths.l1] at H
                  by_cases c11 : x21_2 < ((rd_L1 l0_0 x15_1).length : Int)
                  · rw [if_pos c11] at H
                    have c11b0 : decide (x21_2 < ((rd_L1 l0_0 x15_1).length : Int)) = true := decide_eq_true c11
                    clear c11
                    by_cases c12 : 0 ≤ x21_2
                    · rw [if_pos c12] at H
                      have c12b0 : decide (0 ≤ x21_2) = true := decide_eq_true c12
                      clear c12
                      by_cases c13 : x21_2 < ((rd_L1 l0_0 x15_1).length : Int)
                      · rw [if_pos c13] at H
                        have c13b0 : decide (x21_2 < ((rd_L1 l0_0 x15_1).length : Int)) = true := decide_eq_true c13
                        clear c13
                        by_cases c14 : 0 ≤ (rd (rd_L1 l0_0 x15_1) x21_2)
                        · rw [if_pos c14] at H
                          have c14b0 : decide (0 ≤ (rd (rd_L1 l0_0 x15_1) x21_2)) = true := decide_eq_true c14
                          clear c14
                          by_cases c15 : (rd (rd_L1 l0_0 x15_1) x21_2) < (x3_1.length : Int)
                          · rw [if_pos c15] at H
                            have c15b0 : decide ((rd (rd_L1 l0_0 x15_1) x21_2) < (x3_1.length : Int)) = true := decide_eq_true c15
                            clear c15
                            obtain ⟨ji16, hji16⟩ : ∃ j_ : Int, (mx x6_2 (rd x3_1 (rd (rd_L1 l0_0 x15_1) x21_2))) = j_ := ⟨_, rfl⟩
                            replace H : (graph_Depths.l1 k2 x3_1 ji16 l0_0 (l0_0.length : Int) x15_1 (rd_L1 l0_0 x15_1) ((rd_L1 l0_0 x15_1).length : Int) (wrap64 (x21_2 + 1))) = some r := by first | (rw [hji16] at H; exact H) | (simp only [hji16] at H ⊢; exact H)
                            have hji16_ : (if x6_2 < (rd x3_1 (rd (rd_L1 l0_0 x15_1) x21_2)) then (rd x3_1 (rd (rd_L1 l0_0 x15_1) x21_2)) else x6_2) = ji16 := hji16
                            have H' := Aside0.mk H
                            clear H
                            have p213 : 0 ≤ (x21_2 : Int) := of_decide_eq_true (by first | (with_reducible assumption) | assumption)
                            have q213 : x21_2 < ((rd_L1 l0_0 x15_1).length : Int) := of_decide_eq_true (by first | (with_reducible assumption) | assumption)
                            obtain ⟨ad213, e213, hx213_0⟩ := Kd.at_int HR212_0.out x21_2 p213 q213
                            cases e213
                            replace hx213_0 := (HB.out.cell (World.block_lt_of_cell? w _ hx213_0)).trans hx213_0
                            replace p213 := eq_true p213
                            replace q213 := eq_true q213
                            obtain ⟨Ao17, co17, eo17⟩ := Kd.R_slice HO_3.out
                            subst eo17
                            have p214 : 0 ≤ ((rd (rd_L1 l0_0 x15_1) x21_2) : Int) := of_decide_eq_true (by first | (with_reducible assumption) | assumption)
                            have q214 : (rd (rd_L1 l0_0 x15_1) x21_2) < (x3_1.length : Int) := of_decide_eq_true (by first | (with_reducible assumption) | assumption)
                            obtain ⟨ad214, e214, hx214_0⟩ := Kd.at_int (Kd.R_reads' HO_3.out).2.2 (rd (rd_L1 l0_0 x15_1) x21_2) p214 q214
                            cases e214
                            replace p214 := eq_true p214
                            replace q214 := eq_true q214
                            go_wp2
                            go_roundg k2
                            case measure => have := HK1.out; have := HK2.out; omega
                            case rel => exact ⟨(ji16), (wrap64 (x21_2 + 1)), (by first | rfl | (simp; done) | (simp only [← hji16] <;> (first | rfl | simp)) | (simp [*]; done)), (by first | rfl | (simp; done) | (simp [*]; done)), H', ⟨by have := HK1.out; have := HK2.out; omega⟩, ⟨by (with_reducible repeat (first | apply Kd.R_alloc | apply Kd.R_drewN | apply Kd.R_drew)); exact HO_3.out⟩, ⟨by (with_reducible repeat (first | refine blk_drewN ?_ _ | refine blk_drew ?_ | refine blk_alloc ?_ _)); exact BK210.out⟩, ⟨by repeat (first | (with_reducible first | exact HB.out | apply below_alloc | apply pw_below_drewN | apply below_drew1 | refine below_set ?_ GE210.out) | exact HB.out)⟩⟩
                          · rw [if_neg c15] at H
                            exact absurd H (by simp)
                        · rw [if_neg c14] at H
                          exact absurd H (by simp)
                      · rw [if_neg c13] at H
                        exact absurd H (by simp)
                    · rw [if_neg c12] at H
                      exact absurd H (by simp)
                  · rw [if_neg c11] at H
                    have c11b0 : decide (x21_2 < ((rd_L1 l0_0 x15_1).length : Int)) = false := decide_eq_false c11
                    clear c11
                    by_cases c18 : x3_1.length < 17592186044416
                    · rw [if_pos c18] at H
                      have LMc18 := Aside0.mk c18
                      clear c18
                      obtain ⟨y215, hy215⟩ : ∃ y_ : List Int, y_ = (x3_1 ++ [wrap64 (x6_2 + 1)]) := ⟨_, rfl⟩
                      replace H : (graph_Depths.l0 k2 y215 l0_0 (l0_0.length : Int) (wrap64 (x15_1 + 1))) = some r := by first | (rw [hy215]; with_reducible exact H) | (have H2_ := (Option.bind_some _ _).symm.trans H; rw [hy215]; with_reducible exact H2_) | (have H2_ := (Option.bind_some _ _).symm.trans H; with_reducible exact H2_) | with_reducible exact H | (rw [hy215]; exact H) | exact H
                      have Ny215 := Aside0.mk hy215
                      clear hy215
                      have H' := Aside0.mk H
                      clear H
                      go_wp2_with (first | ((with_reducible refine gate_builtin (b := .append) (xs := #[.tmp 32, .tmp 35]) rfl ?_); at_builtin; refine Kd.R_append (Kd.int .i64) (w0 := w) w.heap.size rfl (.tmp 32) (.tmp 35) 24 3 (.int .i64 0) 8 rfl Try.underlying24 info3 rfl (by decide) (by omega) u3 x3_1 (wrap64 (x6_2 + 1)) [.int .i64 (wrap64 (x6_2 + 1))] (fun _ => True) (fun _ => False) rfl rfl ?aP (fun _ hk => hk.elim) ?aF ?aO ?aB ?aS ?aL ?_; (case aP => exact rfl); (case aB => exact (by repeat (first | (with_reducible first | exact HB.out | apply below_alloc | apply pw_below_drewN | apply below_drew1 | refine below_set ?_ GE210.out) | exact HB.out))); (case aF => exact (fun _ _ => trivial)); (case aO => exact (by (with_reducible repeat (first | apply Kd.R_alloc | apply Kd.R_drewN | apply Kd.R_drew)); exact HO_3.out)); (case aS => exact (below_size (by repeat (first | (with_reducible first | exact HB.out | apply below_alloc | apply pw_below_drewN | apply below_drew1 | refine below_set ?_ GE210.out) | exact HB.out)))); (case aL => have := LMc18.out; omega); intro v216 w19 ho hb hg hat; rw [← Ny215.out] at ho; have n0_ := Aside0.mk (blk_grown (g := gb210) (o := .cells #[.slice (some ad212) l0_0.length c0_0] 29 (0, 0)) (by (with_reducible repeat (first | refine blk_drewN ?_ _ | refine blk_drew ?_ | refine blk_alloc ?_ _)); exact BK210.out) hg (Kd.R_ne HO_3.out BK210.out (by decide))); have n1_ := Aside0.mk (hb); have n2_ := Aside0.mk (ho); clear BK210; clear HB; clear HO_3; have BK210 := n0_; have HB := n1_; have HO217 := n2_; clear n0_ n1_ n2_; clear ho hb hg hat))
                      go_roundg k2
                      case measure => have := HK1.out; have := HK2.out; omega
                      case rel => exact ⟨(y215), (wrap64 (x15_1 + 1)), (by first | rfl | (simp; done) | (simp [*]; done)), H', ⟨by have := HK1.out; have := HK2.out; omega⟩, ⟨by (with_reducible repeat (first | apply Kd.R_alloc | apply Kd.R_drewN | apply Kd.R_drew)); exact HO217.out⟩, ⟨by (with_reducible repeat (first | refine blk_drewN ?_ _ | refine blk_drew ?_ | refine blk_alloc ?_ _)); exact BK210.out⟩, ⟨by repeat (first | (with_reducible first | exact HB.out | apply below_alloc | apply pw_below_drewN | apply below_drew1 | refine below_set ?_ GE210.out) | exact HB.out)⟩⟩
                    · rw [if_neg c18] at H
                      exact absurd H (by simp)
            · rw [if_neg c10] at H
              exact absurd H (by simp)
          · rw [if_neg c9] at H
            exact absurd H (by simp)
        · rw [if_neg c8] at H
          have c8b0 : decide (x15_1 < (l0_0.length : Int)) = false := decide_eq_false c8
          clear c8
          obtain rfl := Option.some.inj H
          go_wp2
          go_ret
          exact ⟨_, by first | rfl | (simp [errW_none, errW_some] <;> rfl) | (simp [*, errW_none, errW_some] <;> rfl), by (with_reducible repeat (first | apply Kd.R_alloc | apply Kd.R_drewN | apply Kd.R_drew)); exact HO_3.out, by repeat (first | (with_reducible first | exact HB.out | apply below_alloc | apply pw_below_drewN | apply below_drew1 | refine below_set ?_ GE210.out) | exact HB.out)⟩
  · replace c3 := Bool.eq_false_iff.mpr c3
    subst c3
    have H1 : (some ([] : List Int)) = some r := by rw [if_neg (show ¬ (false = true) by decide)] at H; exact H
    clear H
    have H := H1
    clear H1
    obtain rfl := Option.some.inj H
    go_enter Try.func18, Try.ntmps18
    go_wp2_with (first | ((with_reducible refine gate_dst (N := 1) rfl ?_); refine box_event ?hg (N := 1) ?hd (cs := #[.slice A0_0 l0_0.length c0_0]) (t := 29) ?hr ?_; (case hd => rfl); (case hg => rfl); (case hr => first | (go_simp; done) | (go_simp; rfl)); intro gb210 hg w20 hbox hb; have n0_ := Aside0.mk (below_step (by repeat (first | (with_reducible first | exact HB.out | apply below_alloc | apply pw_below_drewN | apply below_drew1) | exact HB.out)) hb); have n1_ := Aside0.mk (hbox); have n2_ := Aside0.mk ((by rw [hg]; exact (below_size (by repeat (first | (with_reducible first | exact HB.out | apply below_alloc | apply pw_below_drewN | apply below_drew1) | exact HB.out))) : w.heap.size ≤ gb210)); have n3_ := Aside0.mk ((by rw [hg]; exact (below_size (by repeat (first | (with_reducible first | exact HB.out | apply below_alloc | apply pw_below_drewN | apply below_drew1) | exact HB.out))) : w.heap.size ≤ gb210)); clear HB; have HB := n0_; have BK210 := n1_; have GW210 := n2_; have GE210 := n3_; clear n0_ n1_ n2_ n3_; clear hb hbox hg; have hcz21_0 : w20.cell? ⟨gb210, 0, none⟩ = some (.slice A0_0 l0_0.length c0_0) := (blk_cell BK210.out 0).trans rfl; have hfz21_0 := blk_frozen BK210.out 0) | ((with_reducible refine gate_callee (f := 26) rfl ?_); refine goesL_ (some 10) rfl rfl Try.func26 (by kernel_rfl) rfl #[.agg #[.slice A0_0 l0_0.length c0_0]] rfl (by (try simp only [List.map_toArray, List.map_cons, List.map_nil]); first | done | rfl | (simp only [List.length_drop, List.length_take]; rfl)) ?_; (with_reducible refine (graph_Right.calls k _ _ l0_0 false _ ?side1 ?side2 A2.out).mono ?_); (case side1 => repeat (first | exact (Kd.C_below HR0_0.out HB.out) | (with_reducible refine Kd.C_alloc ?_ _) | (with_reducible refine Kd.C_drewN ?_ _) | (with_reducible refine Kd.C_drew ?_))); (case side2 => exact HC0_0.out); rintro e w22 ⟨rfl, hb⟩; refine ⟨_, rfl, ?_⟩; have n0_ := Aside0.mk (blk_below (g := gb210) (o := .cells #[.slice A0_0 l0_0.length c0_0] 29 (0, 0)) (by (with_reducible repeat (first | refine blk_drewN ?_ _ | refine blk_drew ?_ | refine blk_alloc ?_ _)); exact BK210.out) hb); have n1_ := Aside0.mk (below_step (by repeat (first | (with_reducible first | exact HB.out | apply below_alloc | apply pw_below_drewN | apply below_drew1 | refine below_set ?_ GE210.out) | exact HB.out)) hb); clear BK210; clear HB; have BK210 := n0_; have HB := n1_; clear n0_ n1_; (try clear hb); (try clear hb2); (try clear hk); (try clear hi)))
    go_ret
    exact ⟨_, by first | rfl | (simp [errW_none, errW_some] <;> rfl) | (simp [*, errW_none, errW_some] <;> rfl), by first | exact Kd.R_nil _ _ _ _ _ | exact Kd.N_nil _ _ _ _ _ | exact Kd.V_nil _ _ _ _ _ | exact Kd.Q_nil _ _ _ _ _ | exact Kd.S_nil _ _ _ _ _, by repeat (first | (with_reducible first | exact HB.out | apply below_alloc | apply pw_below_drewN | apply below_drew1 | refine below_set ?_ GE210.out) | exact HB.out)⟩

end Go.Proofs.Ytenmicgohmamaaa.H
