/- What the proof of FrameNew stands on, part 13: this session's own texts and the words that the kit's print lays, those that are used. -/
import Derived.Test.YtcciejcpijlkfaaZFrameNew12
import Derived.Laws.CopyOwn
-- made by this session's gen.py over the kit's print.py; not trusted: Lean checks it
namespace Go.Proofs.Ytcciejcpijlkfaa.H
open Go.RowKit Go.Proofs.YtcciejcpijlkfaaW.PrintWords Go.Proofs.YtcciejcpijlkfaaW.PrintLast Go.Proofs.YtcciejcpijlkfaaW.PrintMore
attribute [local go_sem] max2_int min2_int max_two min_two max_three min_three max_four min_four   -- for this text's walks alone
set_option linter.unusedVariables false
set_option linter.unusedSimpArgs false

/-! ### frame_right: function 25 -/
def frame_right.f (l0 : List (S68)) (a1_0 : Int) (a1_1 : Int) : Option (Bool) := (valid_Check.f l0).bind fun bt119 => (if bt119.2.2 = 0 then (if 0 < (l0.length : Int) then (if 0 ≤ ((rd_T68 l0 0).f0) then (if ((rd_T68 l0 0).f0 : Int).toNat ≤ 35184372088832 then ((eval_Right.f l0 (List.replicate ((rd_T68 l0 0).f0 : Int).toNat 0) a1_0 a1_1).bind fun t126 => (some t126)) else (none)) else (none)) else (none)) else (some false))
def frame_right.T4 : Bool × List (List Nat × List Nat) := (true, [([], []), ([], []), ([1], [1]), ([2], [2]), ([3], [3]), ([4, 4], [4]), ([], []), ([0, 5, 6], [0, 5, 6]), ([7, 7, 0, 1, 2, 3, 4, 5, 6, 7], [7])])
def frame_right.B4 : List Nat := [0, 0, 2, 6, 14, 30, 0, 127, 255]
theorem frame_right.tab4 : rtab .any (opsOf Try.f25 4) = frame_right.T4 := by kernel_rfl
theorem frame_right.bits4 : waitsOk frame_right.T4.2 frame_right.B4 = true := by kernel_rfl
set_option maxHeartbeats 8000000 in
set_option maxRecDepth 100000 in
theorem frame_right.calls (A0 : Option Addr) (c0 : Nat) (l0 : List (S68)) (a1_0 : Int) (a1_1 : Int) (r : Bool) (w : World) (hr0 : Kd.C k68 w A0 l0.length l0) (hc0 : l0.length ≤ c0) (h : frame_right.f l0 a1_0 a1_1 = some r) :
    Calls Try.prog 25 #[.slice A0 l0.length c0, .agg #[.int .i64 a1_0, .int .i64 a1_1]] w fun e w' => e = .returned (.bool r) ∧ Below w.heap.size w w' := by
  have hu43 := Try.underlying43
  have HR0 := Aside0.mk hr0
  have HC0 := Aside0.mk hc0
  clear hr0 hc0
  have HB := Aside0.mk (Below.refl w.heap.size w)
  have H : ((valid_Check.f l0).bind fun bt119 => (if bt119.2.2 = 0 then (if 0 < (l0.length : Int) then (if 0 ≤ ((rd_T68 l0 0).f0) then (if ((rd_T68 l0 0).f0 : Int).toNat ≤ 35184372088832 then ((eval_Right.f l0 (List.replicate ((rd_T68 l0 0).f0 : Int).toNat 0) a1_0 a1_1).bind fun t126 => (some t126)) else (none)) else (none)) else (none)) else (some false))) = some r := h
  clear h
  replace H := Option.bind_eq_some_iff.mp H
  obtain ⟨⟨t119, t120, t121⟩, A30, H⟩ := H
  replace H : (if t121 = 0 then (if 0 < (l0.length : Int) then (if 0 ≤ ((rd_T68 l0 0).f0) then (if ((rd_T68 l0 0).f0 : Int).toNat ≤ 35184372088832 then ((eval_Right.f l0 (List.replicate ((rd_T68 l0 0).f0 : Int).toNat 0) a1_0 a1_1).bind fun t126 => (some t126)) else (none)) else (none)) else (none)) else (some false)) = some r := H
  have A3 := Aside0.mk A30
  clear A30
  by_cases c4 : t121 = 0
  · rw [if_pos c4] at H
    have c4b0 : (t121 == 0) = true := beq_iff_eq.mpr c4
    have c4b1 : (t121 != 0) = false := bne_eq_false_iff_eq.mpr c4
    clear c4
    by_cases c5 : 0 < (l0.length : Int)
    · rw [if_pos c5] at H
      have c5b0 : decide (0 < (l0.length : Int)) = true := decide_eq_true c5
      have c5b1 : decide (0 < l0.length) = true := decide_eq_true (by omega)
      clear c5
      by_cases c6 : 0 ≤ ((rd_T68 l0 0).f0)
      · rw [if_pos c6] at H
        have c6b0 := eq_true c6
        have c6b1 : decide (0 ≤ ((rd_T68 l0 0).f0)) = true := decide_eq_true c6
        clear c6
        by_cases c7 : ((rd_T68 l0 0).f0 : Int).toNat ≤ 35184372088832
        · rw [if_pos c7] at H
          have c7b0 := eq_true c7
          have c7b1 : decide (((rd_T68 l0 0).f0 : Int).toNat ≤ 35184372088832) = true := decide_eq_true c7
          clear c7
          obtain ⟨y123, hy123⟩ : ∃ y_ : List Int, y_ = (List.replicate ((rd_T68 l0 0).f0 : Int).toNat 0) := ⟨_, rfl⟩
          replace H : ((eval_Right.f l0 y123 a1_0 a1_1).bind fun t126 => (some t126)) = some r := by first | (rw [hy123]; with_reducible exact H) | (have H2_ := (Option.bind_some _ _).symm.trans H; rw [hy123]; with_reducible exact H2_) | (have H2_ := (Option.bind_some _ _).symm.trans H; with_reducible exact H2_) | with_reducible exact H | (rw [hy123]; exact H) | exact H
          have Ny123 := Aside0.mk hy123
          clear hy123
          replace H := Option.bind_eq_some_iff.mp H
          obtain ⟨t126, A80, H⟩ := H
          replace H : (some t126) = some r := H
          have A8 := Aside0.mk A80
          clear A80
          obtain rfl := Option.some.inj H
          go_enter Try.func25, Try.ntmps25
          try go_wp2_with (first | ((with_reducible refine gate_dst (N := 3) rfl ?_); refine box_event ?hg (N := 3) ?hd (cs := #[.int .i64 a1_0, .int .i64 a1_1]) (t := 43) ?hr ?_; (case hd => rfl); (case hg => rfl); (case hr => first | (go_simp; done) | (go_simp; rfl)); intro gb118 hg w9 hbox hb; have n0_ := Aside0.mk (below_step (by repeat (first | (with_reducible first | exact HB.out | apply below_alloc | apply pw_below_drewN | apply below_drew1) | exact HB.out)) hb); have n1_ := Aside0.mk (hbox); have n2_ := Aside0.mk ((by rw [hg]; exact (below_size (by repeat (first | (with_reducible first | exact HB.out | apply below_alloc | apply pw_below_drewN | apply below_drew1) | exact HB.out))) : w.heap.size ≤ gb118)); have n3_ := Aside0.mk ((by rw [hg]; exact (below_size (by repeat (first | (with_reducible first | exact HB.out | apply below_alloc | apply pw_below_drewN | apply below_drew1) | exact HB.out))) : w.heap.size ≤ gb118)); clear HB; have HB := n0_; have BK118 := n1_; have GW118 := n2_; have GE118 := n3_; clear n0_ n1_ n2_ n3_; clear hb hbox hg) | ((with_reducible refine gate_callee (f := 39) rfl ?_); refine goesL_ (some 10) rfl rfl Try.func39 (by kernel_rfl) rfl #[.slice A0 l0.length c0] rfl (by (try simp only [List.map_toArray, List.map_cons, List.map_nil]); first | done | rfl | (simp only [List.length_drop, List.length_take]; rfl)) ?_; (with_reducible refine (valid_Check.calls _ _ l0 t119 t120 t121 _ ?side1 ?side2 A3.out).mono ?_); (case side1 => repeat (first | exact (Kd.C_below HR0.out HB.out) | (with_reducible refine Kd.C_alloc ?_ _) | (with_reducible refine Kd.C_drewN ?_ _) | (with_reducible refine Kd.C_drew ?_))); (case side2 => exact HC0.out); rintro e w10 ⟨rfl, hb⟩; refine ⟨_, rfl, ?_⟩; have n0_ := Aside0.mk (blk_below (g := gb118) (o := .cells #[.int .i64 a1_0, .int .i64 a1_1] 43 (0, 0)) (by (with_reducible repeat (first | refine blk_drewN ?_ _ | refine blk_drew ?_ | refine blk_alloc ?_ _)); exact BK118.out) hb); have n1_ := Aside0.mk (below_step (by repeat (first | (with_reducible first | exact HB.out | apply below_alloc | apply pw_below_drewN | apply below_drew1 | refine below_set ?_ GE118.out) | exact HB.out)) hb); clear BK118; clear HB; have BK118 := n0_; have HB := n1_; clear n0_ n1_; (try clear hb); (try clear hb2); (try clear hk); (try clear hi)))
          have n0_ := Aside0.mk (blk_drew BK118.out)
          have n1_ := Aside0.mk (below_drew1 HB.out)
          clear BK118
          clear HB
          have BK118 := n0_
          have HB := n1_
          clear n0_ n1_
          have p122 : 0 ≤ (0 : Int) := (by omega)
          have q122 : 0 < (l0.length : Int) := of_decide_eq_true (by first | (with_reducible assumption) | assumption)
          obtain ⟨ad122, A122_1, c122_1, e122, hx122_0, hx122_1, hl122_1, hi122_1⟩ := at_T68 HR0.out 0 p122 q122
          have hw122_1 := hx122_1
          (try rw [show ((0 : Int)).toNat = 0 from rfl] at hw122_1)
          (try rw [show 0 * 2 = 0 from rfl] at hw122_1)
          (try rw [Addr.add_zero'] at hw122_1)
          have hw122_0 := hx122_0
          (try rw [show ((0 : Int)).toNat = 0 from rfl] at hw122_0)
          (try rw [show 0 * 2 = 0 from rfl] at hw122_0)
          (try rw [Addr.add_zero'] at hw122_0)
          cases e122
          have qi122 : (0 < l0.length) = True := eq_true (by omega)
          (try rw [show ((0 : Int)).toNat = 0 from rfl] at hx122_0)
          (try rw [show 0 * 2 = 0 from rfl] at hx122_0)
          (try rw [Addr.add_zero'] at hx122_0)
          (try rw [show ((0 : Int)).toNat = 0 from rfl] at hx122_1)
          (try rw [show 0 * 2 = 0 from rfl] at hx122_1)
          (try rw [Addr.add_zero'] at hx122_1)
          replace hx122_0 := (HB.out.cell (World.block_lt_of_cell? w _ hx122_0)).trans hx122_0
          replace hx122_1 := (HB.out.cell (World.block_lt_of_cell? w _ hx122_1)).trans hx122_1
          have HR122_1 := Aside0.mk hi122_1
          have HC122_1 := Aside0.mk hl122_1
          clear hi122_1 hl122_1
          replace p122 := eq_true p122
          replace q122 := eq_true q122
          refine start_ (n := 9) (S := fun w' => w'.cell? ⟨gb118, 0, none⟩ = some (.int .i64 a1_0) ∧ w'.cell? ⟨gb118, 1, none⟩ = some (.int .i64 a1_1) ∧ w'.cell? ad122 = some (.int .i64 ((rd_T68 l0 0).f0)) ∧ w'.cell? ⟨ad122.block, ad122.off + 1, none⟩ = some (.slice A122_1 ((rd_T68 l0 0).f1).length c122_1)) (ds := []) #[false, false, false, false, false, false, false, false, false] (by kernel_rfl) rfl rfl ⟨(blk_cell BK118.out 0).trans rfl, (blk_cell BK118.out 1).trans rfl, ((HB.out.cell (World.block_lt_of_cell? w _ hw122_0)).trans hw122_0), ((HB.out.cell (World.block_lt_of_cell? w _ hw122_1)).trans hw122_1)⟩ (fun hHeld => ?_); refine with_tabW frame_right.tab4 frame_right.bits4 (fun HT_ HW_ => ?_)
          generalize w10.drew = w11 at BK118 HB HR122_1 hx122_0 hx122_1 hHeld ⊢
          refine pure_ (i := 0) (N := some 16) (v := ?_) (a' := ?_) #[true, false, false, false, false, false, false, false, false] rfl rfl (any_of HT_.out (by kernel_rfl)) (fun _ _ _ h => h) (Or.inl ⟨by rfl, ?_⟩) ?_ ?_
          rotate_left
          · intro w'
            go_simp
            with_reducible rfl
          rotate_left
          · simp only [Act.put, List.setIfInBounds_toArray, List.set_cons_zero, List.set_cons_succ, i64_w, i32_w]
            rfl
          refine pure_ (i := 1) (N := some 17) (v := ?_) (a' := ?_) #[true, true, false, false, false, false, false, false, false] rfl rfl (any_of HT_.out (by kernel_rfl)) (fun _ _ _ h => h) (Or.inl ⟨by rfl, ?_⟩) ?_ ?_
          rotate_left
          · intro w'
            go_simp
            with_reducible rfl
          rotate_left
          · simp only [Act.put, List.setIfInBounds_toArray, List.set_cons_zero, List.set_cons_succ, i64_w, i32_w]
            rfl
          refine pure_ (i := 2) (N := some 18) (v := ?_) (a' := ?_) #[true, true, true, false, false, false, false, false, false] rfl rfl (any_of HT_.out (by kernel_rfl)) (fun _ _ _ h => h) (Or.inl ⟨by rfl, ?_⟩) ?_ ?_
          rotate_left
          · intro w'
            go_simp
            with_reducible rfl
          rotate_left
          · simp only [Act.put, List.setIfInBounds_toArray, List.set_cons_zero, List.set_cons_succ, i64_w, i32_w]
            rfl
          refine pure_ (i := 3) (N := some 19) (v := ?_) (a' := ?_) #[true, true, true, true, false, false, false, false, false] rfl rfl (any_of HT_.out (by kernel_rfl)) (fun _ _ _ h => h) (Or.inl ⟨by rfl, ?_⟩) ?_ ?_
          rotate_left
          · intro w'
            go_simp
            with_reducible rfl
          rotate_left
          · simp only [Act.put, List.setIfInBounds_toArray, List.set_cons_zero, List.set_cons_succ, i64_w, i32_w]
            rfl
          refine take_ (i := 4) (N := some 20) (v := ?_) (a' := ?_) #[true, true, true, true, true, false, false, false, false] rfl rfl (take_ofW HT_.out HW_.out (by kernel_rfl)) (fun _ _ _ h => h) (Or.inl ⟨by rfl, ?_⟩) hHeld ?_ ?_
          rotate_left
          · rintro w' ⟨s0, s1, s2, s3⟩
            go_simp
            with_reducible rfl
          rotate_left
          · simp only [Act.put, List.setIfInBounds_toArray, List.set_cons_zero, List.set_cons_succ, i64_w, i32_w]
            rfl
          refine take_ (i := 6) (N := some 22) (v := ?_) (a' := ?_) #[true, true, true, true, true, false, true, false, false] rfl rfl (take_ofW HT_.out HW_.out (by kernel_rfl)) (fun _ _ _ h => h) (Or.inl ⟨by rfl, ?_⟩) hHeld ?_ ?_
          rotate_left
          · rintro w' ⟨s0, s1, s2, s3⟩
            go_simp
            with_reducible rfl
          rotate_left
          · simp only [Act.put, List.setIfInBounds_toArray, List.set_cons_zero, List.set_cons_succ, i64_w, i32_w]
            rfl
          refine one_ (i := 5) (N := some 21) #[true, true, true, true, true, true, true, false, false] rfl rfl (one_of HT_.out (by kernel_rfl)) (by decide) (fun K hK => ?_)
          refine Kd.R_make_step (Kd.int .i64) _ 2 (by rfl) (N := 21) rfl 34 _ _ rfl ((rd_T68 l0 0).f0) rfl rfl Try.underlying34 (.int .i64 0) 8 info2 rfl (by decide) (by omega) 0 (ok := fun _ => True) (okp := fun _ => True) rfl (fun _ hk => hk) trivial (of_decide_eq_true (by first | (with_reducible assumption) | assumption)) (Nat.le_trans (Nat.mul_le_mul_right _ (of_decide_eq_true (by first | (with_reducible assumption) | assumption) : ((rd_T68 l0 0).f0).toNat ≤ 35184372088832)) (by omega)) (Below.refl _ _) (Nat.le_refl _) ?_
          intro v124 w12 ho13 hb hg_ hnew_
          clear hg_ hnew_
          (first | rw [← Ny123.out] at ho13 | (simp only [Int.reduceToNat] at ho13; rw [← Ny123.out] at ho13))
          have n0_ := Aside0.mk (Kd.R_lower ho13 (below_size (by repeat (first | (with_reducible first | exact HB.out | apply below_alloc | apply pw_below_drewN | apply below_drew1 | refine below_set ?_ GE118.out) | exact HB.out))))
          have n1_ := Aside0.mk (blk_below (g := gb118) (o := .cells #[.int .i64 a1_0, .int .i64 a1_1] 43 (0, 0)) (by (with_reducible repeat (first | refine blk_drewN ?_ _ | refine blk_drew ?_ | refine blk_alloc ?_ _)); exact BK118.out) hb)
          have n2_ := Aside0.mk (below_step (by repeat (first | (with_reducible first | exact HB.out | apply below_alloc | apply pw_below_drewN | apply below_drew1 | refine below_set ?_ GE118.out) | exact HB.out)) hb)
          clear BK118
          clear HB
          have HO125 := n0_
          have BK118 := n1_
          have HB := n2_
          clear n0_ n1_ n2_
          clear hb ho13
          obtain ⟨Ao14, co14, eo14⟩ := Kd.R_slice HO125.out
          (first | subst eo14 | (injection eo14 with f1_ f2_ f3_; have f4_ := f1_.symm; have f5_ := f3_.symm; clear f1_ f2_ f3_; subst f4_; subst f5_))
          refine hK.out _ _ ⟨(blk_cell BK118.out 0).trans rfl, (blk_cell BK118.out 1).trans rfl, ((HB.out.cell (World.block_lt_of_cell? w _ hw122_0)).trans hw122_0), ((HB.out.cell (World.block_lt_of_cell? w _ hw122_1)).trans hw122_1)⟩ (fun hHeld => ?_)
          clear hK K
          refine norm_ (a' := ?_) ?_ ?_
          rotate_left
          · show Act.put _ (some 21) _ = _
            simp only [Act.put, List.setIfInBounds_toArray, List.set_cons_zero, List.set_cons_succ, i64_w, i32_w]
            rfl
          refine one_ (i := 7) (N := some 23) #[true, true, true, true, true, true, true, true, false] rfl rfl (one_of HT_.out (by kernel_rfl)) (by decide) (fun K hK => ?_)
          refine goes_ Try.func33 (by kernel_rfl) rfl #[.slice (some ad122) l0.length c0, .slice Ao14 y123.length co14, .agg #[.int .i64 a1_0, .int .i64 a1_1]] (by rfl) rfl rfl (by (try simp only [List.map_toArray, List.map_cons, List.map_nil]); first | done | rfl | (simp only [List.length_drop, List.length_take]; rfl)) ?_
          with_reducible refine (eval_Right.calls _ _ l0 _ _ y123 a1_0 a1_1 t126 _ ?side1 ?side2 ?side3 ?side4 A8.out).mono ?_
          (case side1 => repeat (first | exact (Kd.C_below HR0.out HB.out) | (with_reducible refine Kd.C_alloc ?_ _) | (with_reducible refine Kd.C_drewN ?_ _) | (with_reducible refine Kd.C_drew ?_)))
          (case side2 => exact HC0.out)
          (case side3 => repeat (first | exact (Kd.R_reads' HO125.out).2.2 | (with_reducible refine Kd.C_alloc ?_ _) | (with_reducible refine Kd.C_drewN ?_ _) | (with_reducible refine Kd.C_drew ?_)))
          (case side4 => exact (Kd.R_reads' HO125.out).2.1)
          rintro e w15 ⟨rfl, hb⟩
          refine ⟨_, rfl, ?_⟩
          have n0_ := Aside0.mk (Kd.R_below (by (with_reducible repeat (first | apply Kd.R_alloc | apply Kd.R_drewN | apply Kd.R_drew)); exact HO125.out) hb)
          have n1_ := Aside0.mk (blk_below (g := gb118) (o := .cells #[.int .i64 a1_0, .int .i64 a1_1] 43 (0, 0)) (by (with_reducible repeat (first | refine blk_drewN ?_ _ | refine blk_drew ?_ | refine blk_alloc ?_ _)); exact BK118.out) hb)
          have n2_ := Aside0.mk (below_step (by repeat (first | (with_reducible first | exact HB.out | apply below_alloc | apply pw_below_drewN | apply below_drew1 | refine below_set ?_ GE118.out) | exact HB.out)) hb)
          clear HO125
          clear BK118
          clear HB
          have HO125 := n0_
          have BK118 := n1_
          have HB := n2_
          clear n0_ n1_ n2_
          (try clear hb)
          (try clear hb2)
          (try clear hk)
          (try clear hi)
          refine hK.out _ _ ⟨(blk_cell BK118.out 0).trans rfl, (blk_cell BK118.out 1).trans rfl, ((HB.out.cell (World.block_lt_of_cell? w _ hw122_0)).trans hw122_0), ((HB.out.cell (World.block_lt_of_cell? w _ hw122_1)).trans hw122_1)⟩ (fun hHeld => ?_)
          clear hK K
          refine norm_ (a' := ?_) ?_ ?_
          rotate_left
          · show Act.put _ (some 23) _ = _
            simp only [Act.put, List.setIfInBounds_toArray, List.set_cons_zero, List.set_cons_succ, i64_w, i32_w]
            rfl
          refine pure_ (i := 8) (N := some 4) (v := ?_) (a' := ?_) #[true, true, true, true, true, true, true, true, true] rfl rfl (any_of HT_.out (by kernel_rfl)) (fun _ _ _ h => h) (Or.inl ⟨by rfl, ?_⟩) ?_ ?_
          rotate_left
          · intro w'
            go_simp
            with_reducible rfl
          rotate_left
          · simp only [Act.put, List.setIfInBounds_toArray, List.set_cons_zero, List.set_cons_succ, i64_w, i32_w]
            rfl
          refine done_ (done_of HT_.out (by kernel_rfl)) ?_
          try go_wp2
          go_ret
          exact ⟨by first | rfl | (simp [errW_none, errW_some] <;> rfl) | (simp [*, errW_none, errW_some] <;> rfl), by repeat (first | (with_reducible first | exact HB.out | apply below_alloc | apply pw_below_drewN | apply below_drew1 | refine below_set ?_ GE118.out) | exact HB.out)⟩
        · rw [if_neg c7] at H
          exact absurd H (by simp)
      · rw [if_neg c6] at H
        exact absurd H (by simp)
    · rw [if_neg c5] at H
      exact absurd H (by simp)
  · rw [if_neg c4] at H
    have c4b0 : (t121 == 0) = false := beq_eq_false_iff_ne.mpr c4
    have c4b1 : (t121 != 0) = true := bne_iff_ne.mpr c4
    obtain rfl := Option.some.inj H
    go_enter Try.func25, Try.ntmps25
    go_wp2_with (first | ((with_reducible refine gate_dst (N := 3) rfl ?_); refine box_event ?hg (N := 3) ?hd (cs := #[.int .i64 a1_0, .int .i64 a1_1]) (t := 43) ?hr ?_; (case hd => rfl); (case hg => rfl); (case hr => first | (go_simp; done) | (go_simp; rfl)); intro gb118 hg w16 hbox hb; have n0_ := Aside0.mk (below_step (by repeat (first | (with_reducible first | exact HB.out | apply below_alloc | apply pw_below_drewN | apply below_drew1) | exact HB.out)) hb); have n1_ := Aside0.mk (hbox); have n2_ := Aside0.mk ((by rw [hg]; exact (below_size (by repeat (first | (with_reducible first | exact HB.out | apply below_alloc | apply pw_below_drewN | apply below_drew1) | exact HB.out))) : w.heap.size ≤ gb118)); have n3_ := Aside0.mk ((by rw [hg]; exact (below_size (by repeat (first | (with_reducible first | exact HB.out | apply below_alloc | apply pw_below_drewN | apply below_drew1) | exact HB.out))) : w.heap.size ≤ gb118)); clear HB; have HB := n0_; have BK118 := n1_; have GW118 := n2_; have GE118 := n3_; clear n0_ n1_ n2_ n3_; clear hb hbox hg) | ((with_reducible refine gate_callee (f := 39) rfl ?_); refine goesL_ (some 10) rfl rfl Try.func39 (by kernel_rfl) rfl #[.slice A0 l0.length c0] rfl (by (try simp only [List.map_toArray, List.map_cons, List.map_nil]); first | done | rfl | (simp only [List.length_drop, List.length_take]; rfl)) ?_; (with_reducible refine (valid_Check.calls _ _ l0 t119 t120 t121 _ ?side1 ?side2 A3.out).mono ?_); (case side1 => repeat (first | exact (Kd.C_below HR0.out HB.out) | (with_reducible refine Kd.C_alloc ?_ _) | (with_reducible refine Kd.C_drewN ?_ _) | (with_reducible refine Kd.C_drew ?_))); (case side2 => exact HC0.out); rintro e w17 ⟨rfl, hb⟩; refine ⟨_, rfl, ?_⟩; have n0_ := Aside0.mk (blk_below (g := gb118) (o := .cells #[.int .i64 a1_0, .int .i64 a1_1] 43 (0, 0)) (by (with_reducible repeat (first | refine blk_drewN ?_ _ | refine blk_drew ?_ | refine blk_alloc ?_ _)); exact BK118.out) hb); have n1_ := Aside0.mk (below_step (by repeat (first | (with_reducible first | exact HB.out | apply below_alloc | apply pw_below_drewN | apply below_drew1 | refine below_set ?_ GE118.out) | exact HB.out)) hb); clear BK118; clear HB; have BK118 := n0_; have HB := n1_; clear n0_ n1_; (try clear hb); (try clear hb2); (try clear hk); (try clear hi)))
    go_ret
    exact ⟨by first | rfl | (simp [errW_none, errW_some] <;> rfl) | (simp [*, errW_none, errW_some] <;> rfl), by repeat (first | (with_reducible first | exact HB.out | apply below_alloc | apply pw_below_drewN | apply below_drew1 | refine below_set ?_ GE118.out) | exact HB.out)⟩

end Go.Proofs.Ytcciejcpijlkfaa.H

set_option linter.unusedVariables false
set_option linter.unusedSimpArgs false
namespace Go.Proofs.Ytcciejcpijlkfaa.H
open Go.RowKit Go.Hay Go.Proofs.YtcciejcpijlkfaaW.PrintWords Go.Proofs.YtcciejcpijlkfaaW.PrintLast Go.Proofs.YtcciejcpijlkfaaW.PrintMore
/-- may a program run? -/
def evRight (l : List S68) (n : Nat) (b d : Int) : Bool :=
  if (checkP l).2.2 = 0 then (if b < 1 then false else if b > 10000 then false else if d < 0 then false else if d > 30 then false else ((n : Int) == (rd_T68 l 0).f0)) else false
theorem evRight_f (l : List S68) (args : List Int) (b d : Int) : eval_Right.f l args b d = some (evRight l args.length b d) := by
  unfold eval_Right.f evRight valid_Check.f
  simp only [Option.bind_some]
  by_cases h : (checkP l).2.2 = 0
  · have hl := (check_ok h).len
    rw [if_pos h, if_pos h]
    repeat' split
    all_goals first | rfl | (exfalso; omega)
  · rw [if_neg h, if_neg h]
end Go.Proofs.Ytcciejcpijlkfaa.H

set_option linter.unusedVariables false
set_option linter.unusedSimpArgs false
namespace Go.Proofs.Ytcciejcpijlkfaa.H
open Go.RowKit Go.Hay Go.Proofs.YtcciejcpijlkfaaW.PrintWords Go.Proofs.YtcciejcpijlkfaaW.PrintLast Go.Proofs.YtcciejcpijlkfaaW.PrintMore
section
variable {A : Option Addr} {c : Nat} {b d : Int} {fb : Nat} {F : Fr} {w : World} {Ap : Option Addr} {cp : Nat}
theorem do_any {l : List S68} (hl : POk l) (hC : k68.C w A l.length l) (hP : (Kd.int .i64).C w Ap F.path.length F.path) (hpc : F.path.length ≤ cp) (hpn : Ap = none → cp = 0) (h : FB fb F (.slice Ap F.path.length cp) w) (x : S65) {lc : Nat} (hx : IOk l lc x) (hd30 : d ≤ 30) :
    Calls Try.prog (fdeedF x.f0) #[dV A l.length c b d fb, xvF x] w (DoP fb (.slice Ap F.path.length cp) (doF l d x F) w) := by
  have hop := hx.op
  have hcases : x.f0 = 1 ∨ x.f0 = 2 ∨ x.f0 = 3 ∨ x.f0 = 4 ∨ x.f0 = 5 ∨ x.f0 = 6 ∨ x.f0 = 7 ∨ x.f0 = 8 ∨ x.f0 = 9 ∨ x.f0 = 10 ∨ x.f0 = 11 ∨ x.f0 = 12 ∨ x.f0 = 13 ∨ x.f0 = 14 ∨ x.f0 = 15 ∨ x.f0 = 16 ∨ x.f0 = 17 := by omega
  unfold doF
  rcases hcases with e | e | e | e | e | e | e | e | e | e | e | e | e | e | e | e | e
  · rw [e, fdeedF_1, if_pos rfl]
    exact dset_any h x (hx.a (by omega) (by omega) (by omega) (by omega))
  · rw [e, fdeedF_2, if_neg (by decide), if_pos rfl]
    exact dmove_any h x (hx.a (by omega) (by omega) (by omega) (by omega)) (hx.b (.inl (by omega)))
  · rw [e, fdeedF_3, if_neg (by decide), if_neg (by decide), if_pos (by decide)]
    exact dreckon_add h x e (hx.a (by omega) (by omega) (by omega) (by omega)) (hx.b (.inl (by omega))) (hx.c (by omega))
  · rw [e, fdeedF_4, if_neg (by decide), if_neg (by decide), if_pos (by decide)]
    exact dreckon_sub h x e (hx.a (by omega) (by omega) (by omega) (by omega)) (hx.b (.inl (by omega))) (hx.c (by omega))
  · rw [e, fdeedF_5, if_neg (by decide), if_neg (by decide), if_pos (by decide)]
    exact dreckon_mul h x e (hx.a (by omega) (by omega) (by omega) (by omega)) (hx.b (.inl (by omega))) (hx.c (by omega))
  · rw [e, fdeedF_6, if_neg (by decide), if_neg (by decide), if_pos (by decide)]
    by_cases hz : fR F x.f3 = 0
    · have hr : reckonP 6 (fR F x.f2) (fR F x.f3) = none := by simp [reckonP, hz]
      rw [hr]
      exact dreckon_no h x e (hx.a (by omega) (by omega) (by omega) (by omega)) (hx.b (.inl (by omega))) (hx.c (by omega)) hz
    · have hr : reckonP 6 (fR F x.f2) (fR F x.f3) = some (wrap64 ((fR F x.f2).tdiv (fR F x.f3))) := by simp [reckonP, hz]
      rw [hr]
      exact dreckon_div h x e (hx.a (by omega) (by omega) (by omega) (by omega)) (hx.b (.inl (by omega))) (hx.c (by omega)) hz
  · rw [e, fdeedF_7, if_neg (by decide), if_neg (by decide), if_pos (by decide)]
    exact dreckon_less h x e (hx.a (by omega) (by omega) (by omega) (by omega)) (hx.b (.inl (by omega))) (hx.c (by omega))
  · rw [e, fdeedF_8, if_neg (by decide), if_neg (by decide), if_pos (by decide)]
    exact dreckon_same h x e (hx.a (by omega) (by omega) (by omega) (by omega)) (hx.b (.inl (by omega))) (hx.c (by omega))
  · rw [e, fdeedF_9, if_neg (by decide), if_neg (by decide), if_neg (by decide), if_pos rfl]
    exact djump_any h x
  · rw [e, fdeedF_10, if_neg (by decide), if_neg (by decide), if_neg (by decide), if_neg (by decide), if_pos rfl]
    exact dzero_any h x (hx.a (by omega) (by omega) (by omega) (by omega))
  · rw [e, fdeedF_11, if_neg (by decide), if_neg (by decide), if_neg (by decide), if_neg (by decide), if_neg (by decide), if_pos rfl]
    exact dspawn_any hl hC hP hpc hpn h x hd30 (hx.b (.inr (.inl e))) (hx.cf (.inl e))
  · rw [e, fdeedF_12, if_neg (by decide), if_neg (by decide), if_neg (by decide), if_neg (by decide), if_neg (by decide), if_neg (by decide), if_pos rfl]
    exact dsync_any h x
  · rw [e, fdeedF_13, if_neg (by decide), if_neg (by decide), if_neg (by decide), if_neg (by decide), if_neg (by decide), if_neg (by decide), if_neg (by decide), if_pos rfl]
    exact dfuture_any hl hC hP hpc hpn h x hd30 (hx.b (.inr (.inr e))) (hx.cf (.inr e))
  · rw [e, fdeedF_14, if_neg (by decide), if_neg (by decide), if_neg (by decide), if_neg (by decide), if_neg (by decide), if_neg (by decide), if_neg (by decide), if_neg (by decide), if_pos rfl]
    by_cases hz : fH F x.f2 = 0
    · rw [if_pos hz]; exact dtouch_no h x (hx.b14 e) hz
    · rw [if_neg hz]; exact dtouch_yes h x (hx.b14 e) hz
  · rw [e, fdeedF_15, if_neg (by decide), if_neg (by decide), if_neg (by decide), if_neg (by decide), if_neg (by decide), if_neg (by decide), if_neg (by decide), if_neg (by decide), if_neg (by decide), if_pos rfl]
    exact demit_any h x (hx.a (by omega) (by omega) (by omega) (by omega))
  · rw [e, fdeedF_16, if_neg (by decide), if_neg (by decide), if_neg (by decide), if_neg (by decide), if_neg (by decide), if_neg (by decide), if_neg (by decide), if_neg (by decide), if_neg (by decide), if_neg (by decide), if_pos rfl]
    exact dfail_any h x
  · rw [e, fdeedF_17, if_neg (by decide), if_neg (by decide), if_neg (by decide), if_neg (by decide), if_neg (by decide), if_neg (by decide), if_neg (by decide), if_neg (by decide), if_neg (by decide), if_neg (by decide), if_neg (by decide)]
    exact dret_any h x
end
/-- may a program run with such limits? -/
theorem fright_f (l : List S68) (b d : Int) : frame_right.f l b d = some (frRight l b d) := by
  unfold frame_right.f valid_Check.f frRight
  simp only [Option.bind_some]
  by_cases h : (checkP l).2.2 = 0
  · have hp := check_ok h
    have hl := hp.len
    have h0 := (hp.fn 0 (by omega)).1
    have e : rd_T68 l 0 = l[0] := by simp [rd_T68, show 0 < l.length by omega]
    rw [if_pos h, if_pos (by omega), if_pos (by rw [e]; omega), if_pos (by rw [e]; omega), evRight_f]
    simp only [Option.bind_some]
    congr 1
    unfold evRight
    rw [if_pos h, List.length_replicate]
    by_cases h1 : b < 1
    · rw [if_pos h1, decide_eq_false (by omega)]
    rw [if_neg h1]
    by_cases h2 : b > 10000
    · rw [if_pos h2, decide_eq_false (by omega)]
    rw [if_neg h2]
    by_cases h3 : d < 0
    · rw [if_pos h3, decide_eq_false (by omega)]
    rw [if_neg h3]
    by_cases h4 : d > 30
    · rw [if_pos h4, decide_eq_false (by omega)]
    rw [if_neg h4, decide_eq_true (by omega), e]
    have : ((l[0].f0.toNat : Nat) : Int) = l[0].f0 := by omega
    rw [this]
    simp
  · rw [if_neg h, decide_eq_false (by omega)]
end Go.Proofs.Ytcciejcpijlkfaa.H

set_option linter.unusedVariables false
set_option linter.unusedSimpArgs false
namespace Go.Proofs.Ytcciejcpijlkfaa.H
open Go.RowKit Go.Hay Go.Proofs.YtcciejcpijlkfaaW.PrintWords Go.Proofs.YtcciejcpijlkfaaW.PrintLast Go.Proofs.YtcciejcpijlkfaaW.PrintMore
set_option maxRecDepth 100000 in
theorem pne_some (a : Addr) (w : World) : (binOp .neq 31 (.pointer (some a)) (.pointer none)).run Try.prog w = .ok (.bool true) w := rfl
set_option maxRecDepth 100000 in
set_option maxHeartbeats 8000000 in
theorem there_any {A : Option Addr} {c : Nat} {l : List S68} {fb : Nat} {F : Fr} {vp : Value} {w : World} (hC : k68.C w A l.length l) (h : FB fb F vp w) : Calls Try.prog 26 #[.slice A l.length c, .pointer (some ⟨fb, 0, none⟩)] w fun e w' => e = .returned (.bool (thereP l F)) ∧ Below w.heap.size w w' := by
  have h1 := pne_some
  have t0 := h.fix.1
  have t1 := h.fix.2.1
  have HC := Aside0.mk hC
  clear hC h
  unfold thereP
  by_cases c1 : 0 ≤ F.fn
  · by_cases c2 : F.fn < l.length
    · obtain ⟨f, hf⟩ : ∃ f : Nat, F.fn = f := ⟨F.fn.toNat, by omega⟩
      have hfl : f < l.length := by omega
      rw [hf] at t0 c1 c2 ⊢
      obtain ⟨ad, A1, c0, e, p0, p1, hc1, hC1⟩ := at_T68 HC.out (f : Int) (by omega) c2
      rw [Int.toNat_natCast] at p0 p1
      obtain ⟨L, hL⟩ : ∃ L, L = (rd_T68 l (f : Int)).f1.length := ⟨_, rfl⟩
      rw [← hL] at p1 ⊢
      subst e
      clear hL hC1 hc1 hf p0
      generalize l.length = n at c2 ⊢
      have k2 : ((f : Int) < (n : Int)) = True := eq_true c2
      have k2' : (f < n) = True := eq_true (by omega)
      by_cases c3 : 0 ≤ F.at_
      · have k3 : (0 ≤ F.at_) = True := eq_true c3
        by_cases c4 : F.at_ < L
        · have k4 : (F.at_ < (L : Int)) = True := eq_true c4
          rw [decide_eq_true (by omega)]
          clear c1 c2 c3 c4 hfl
          go_enter Try.func26, Try.ntmps26
          go_wp2_with fail
          go_quiet (fail)
          go_wp2_with fail
          go_ret
          exact ⟨rfl, pw_below_drewN (Below.refl _ _) _⟩
        · have k4 : (F.at_ < (L : Int)) = False := eq_false c4
          rw [decide_eq_false (by omega)]
          clear c1 c2 c3 c4 hfl
          go_enter Try.func26, Try.ntmps26
          go_wp2_with fail
          go_quiet (fail)
          go_wp2_with fail
          go_ret
          exact ⟨rfl, pw_below_drewN (Below.refl _ _) _⟩
      · have k3 : (0 ≤ F.at_) = False := eq_false c3
        rw [decide_eq_false (by omega)]
        clear c1 c2 c3 hfl
        go_enter Try.func26, Try.ntmps26
        go_wp2_with fail
        go_quiet (fail)
        go_wp2_with fail
        go_ret
        exact ⟨rfl, pw_below_drewN (Below.refl _ _) _⟩
    · have k1 : (0 ≤ F.fn) = True := eq_true c1
      have k2 : (F.fn < (l.length : Int)) = False := eq_false c2
      rw [decide_eq_false (by omega)]
      clear c1 c2 HC
      generalize l.length = n at k2 ⊢
      go_enter Try.func26, Try.ntmps26
      go_wp2_with fail
      go_quiet (fail)
      go_wp2_with fail
      go_ret
      exact ⟨rfl, pw_below_drewN (Below.refl _ _) _⟩
  · have k1 : (0 ≤ F.fn) = False := eq_false c1
    rw [decide_eq_false (by omega)]
    clear c1 HC
    go_enter Try.func26, Try.ntmps26
    go_wp2_with fail
    go_quiet (fail)
    go_wp2_with fail
    go_ret
    exact ⟨rfl, pw_below_drewN (Below.refl _ _) _⟩
end Go.Proofs.Ytcciejcpijlkfaa.H

set_option linter.unusedVariables false
set_option linter.unusedSimpArgs false
namespace Go.Proofs.Ytcciejcpijlkfaa.H
open Go.RowKit Go.Hay Go.Proofs.YtcciejcpijlkfaaW.PrintWords Go.Proofs.YtcciejcpijlkfaaW.PrintLast Go.Proofs.YtcciejcpijlkfaaW.PrintMore
structure XW (w : World) (b d : Int) (W : World) : Prop where
  below : Below w.heap.size w W
  c0 : W.heap[w.heap.size]? = some (.cells #[.int .i64 b, .int .i64 d] 43 (0, 0))
  c1 : W.heap[w.heap.size + 1]? = some zEff
theorem XW.start (w : World) (b d : Int) : XW w b d ((w.alloc (.cells #[.int .i64 b, .int .i64 d] 43)).alloc zEff) := by
  have e1 : (w.alloc (.cells #[.int .i64 b, .int .i64 d] 43)).heap.size = w.heap.size + 1 := Array.size_push _
  have b1 := (Below.refl w.heap.size w).alloc (Nat.le_refl _) (.cells #[.int .i64 b, .int .i64 d] 43)
  refine ⟨b1.alloc b1.size _, blk_alloc (alloc_blk w _) _, ?_⟩
  have := alloc_blk (w.alloc (.cells #[.int .i64 b, .int .i64 d] 43)) zEff
  rw [e1] at this
  exact this
theorem XW.below2 {w W W' : World} {b d : Int} (h : XW w b d W) (hb : Below W.heap.size W W') : XW w b d W' :=
  ⟨h.below.trans (hb.mono h.below.size), (hb.block _ (blk_lt h.c0)).trans h.c0, (hb.block _ (blk_lt h.c1)).trans h.c1⟩
theorem exec_results {tmps : Array Value} {w : World} {rb : Nat} {e : Ef} {Aa : Option Addr} {ca : Nat} {Ab : Option Addr} {cb : Nat} {v : Value} (t : tmps.getD 6 undef = .pointer (some ⟨rb, 0, none⟩)) (t7 : tmps.getD 7 undef = v) (c : w.heap[rb]? = some (effObj e Aa ca Ab cb)) :
    (results Try.f11 tmps).run Try.prog w = .ok (.tuple #[efV e Aa ca Ab cb, v]) w := by
  have q0 := blk_cell c 0
  have q1 := blk_cell c 1
  have q2 := blk_cell c 2
  have q3 := blk_cell c 3
  have q4 := blk_cell c 4
  have q5 := blk_cell c 5
  have q6 := blk_cell c 6
  have q7 := blk_cell c 7
  simp only [Array.getD_eq_getD_getElem?] at t t7
  simp [results, Try.results11, go_sem, t, t7, q0, q1, q2, q3, q4, q5, q6, q7, efV]
/-- what Exec leaves. -/
def ExecP (fb : Nat) (vp : Value) (r : Ef × Int × Fr) (w : World) (x : Ending) (w' : World) : Prop :=
  ∃ Aa ca Ab cb, x = .returned (.tuple #[efV r.1 Aa ca Ab cb, .int .i64 r.2.1]) ∧ EfC w.heap.size w' r.1 Aa ca Ab cb ∧ FB fb r.2.2 vp w' ∧ Keep (fun q => q = fb) w w'
set_option maxRecDepth 100000 in
set_option maxHeartbeats 8000000 in
theorem Exec_any {A : Option Addr} {c : Nat} {l : List S68} {b d : Int} {fb : Nat} {F : Fr} {Ap : Option Addr} {cp : Nat} {w : World} (hCK : ∀ w', Keep (fun q => q = fb) w w' → k68.C w' A l.length l) (hc : l.length ≤ c) (hPK : ∀ w', Keep (fun q => q = fb) w w' → (Kd.int .i64).C w' Ap F.path.length F.path) (hpc : F.path.length ≤ cp) (hpn : Ap = none → cp = 0) (h : FB fb F (.slice Ap F.path.length cp) w) (hst : -9223372036854775808 ≤ F.steps) :
    Calls Try.prog 11 #[.slice A l.length c, .agg #[.int .i64 b, .int .i64 d], .pointer (some ⟨fb, 0, none⟩)] w (ExecP fb (.slice Ap F.path.length cp) (execP l b d F) w) := by
  obtain ⟨W, hW⟩ : ∃ W, W = (w.alloc (.cells #[.int .i64 b, .int .i64 d] 43)).alloc (.cells #[.int .i64 0, .int .i64 0, .int .i64 0, .int .i64 0, .int .i64 0, .int .i64 0, .slice none 0 0, .slice none 0 0] 36) := ⟨_, rfl⟩
  have hX : XW w b d W := by rw [hW]; exact XW.start w b d
  have HX := Aside0.mk hX
  have HW := Aside0.mk hW
  have d0 := blk_cell hX.c0 0
  have d1 := blk_cell hX.c0 1
  clear hW hX
  have hC := hCK w (Keep.refl _ _)
  have hP := hPK w (Keep.refl _ _)
  have HCK := Aside0.mk (And.intro hCK hPK)
  clear hCK hPK
  have HC := Aside0.mk (And.intro hC hc)
  have HP := Aside0.mk (And.intro hP (And.intro hpc (And.intro hpn hst)))
  have H := Aside0.mk (And.intro h (h.below HX.out.below))
  clear hC hc hP hpc hpn h hst
  obtain ⟨R, hR⟩ : ∃ R, R = execP l b d F := ⟨_, rfl⟩
  rw [← hR]
  unfold execP at hR
  have HRR := Aside0.mk hR
  clear hR
  go_enter Try.func11, Try.ntmps11
  go_upto_region 1 with (fail)
  rw [← HW.out]
  go_wp2_with fail
  refine (frame_right.calls A c l b d _ W (Kd.C_below HC.out.1 HX.out.below) HC.out.2 (fright_f l b d)).mono ?_
  rintro e w1 ⟨rfl, hb1⟩
  have HX := Aside0.mk (HX.out.below2 hb1)
  clear d0 d1 hb1 HW
  have H := Aside0.mk (And.intro H.out.1 (H.out.1.below HX.out.below))
  cases hRt : frRight l b d with
  | false =>
    have hR := HRR.out
    rw [if_neg (by rw [hRt]; decide)] at hR
    have HRR := Aside0.mk hR
    clear hR hRt
    have hc1 := HX.out.c1
    have HC1 := Aside0.mk hc1
    have q0 := blk_cell hc1 0
    have q1 := blk_cell hc1 1
    have q2 := blk_cell hc1 2
    have q3 := blk_cell hc1 3
    have q4 := blk_cell hc1 4
    have q5 := blk_cell hc1 5
    have q6 := blk_cell hc1 6
    have q7 := blk_cell hc1 7
    have f0 := blk_frozen hc1 0
    have f1 := blk_frozen hc1 1
    have f2 := blk_frozen hc1 2
    have f3 := blk_frozen hc1 3
    have f4 := blk_frozen hc1 4
    have f5 := blk_frozen hc1 5
    have f6 := blk_frozen hc1 6
    have f7 := blk_frozen hc1 7
    clear hc1
    go_wp2_with fail
    obtain ⟨hs1, hs2⟩ := storeE_at HC1.out efZ none 0 none 0
    rw [HRR.out]
    exact ⟨rfl, _, exec_results (e := efZ) rfl rfl hs1, none, 0, none, 0, rfl, EfC.plain _ _ _ ⟨rfl, rfl⟩, H.out.2.keep hs2 (by have := H.out.1.lt; omega), (Keep.of_below HX.out.below _).then hs2 (fun q hq e => by omega)⟩
  | true =>
    have hR := HRR.out
    rw [if_pos hRt] at hR
    have HRR := Aside0.mk hR
    have HRT := Aside0.mk hRt
    clear hR hRt
    go_wp2_with fail
    refine (there_any (c := c) (Kd.C_below HC.out.1 HX.out.below) H.out.2).mono ?_
    rintro e w2 ⟨rfl, hb2⟩
    have HX := Aside0.mk (HX.out.below2 hb2)
    have H := Aside0.mk (And.intro H.out.1 (H.out.1.below HX.out.below))
    clear hb2
    cases hTh : thereP l F with
    | false =>
      have hR := HRR.out
      rw [if_neg (by rw [hTh]; decide)] at hR
      have HRR := Aside0.mk hR
      clear hR hTh
      have hc1 := HX.out.c1
      have HC1 := Aside0.mk hc1
      have q0 := blk_cell hc1 0
      have q1 := blk_cell hc1 1
      have q2 := blk_cell hc1 2
      have q3 := blk_cell hc1 3
      have q4 := blk_cell hc1 4
      have q5 := blk_cell hc1 5
      have q6 := blk_cell hc1 6
      have q7 := blk_cell hc1 7
      have f0 := blk_frozen hc1 0
      have f1 := blk_frozen hc1 1
      have f2 := blk_frozen hc1 2
      have f3 := blk_frozen hc1 3
      have f4 := blk_frozen hc1 4
      have f5 := blk_frozen hc1 5
      have f6 := blk_frozen hc1 6
      have f7 := blk_frozen hc1 7
      clear hc1
      go_wp2_with fail
      obtain ⟨hs1, hs2⟩ := storeE_at HC1.out efZ none 0 none 0
      rw [HRR.out]
      exact ⟨rfl, _, exec_results (e := efZ) rfl rfl hs1, none, 0, none, 0, rfl, EfC.plain _ _ _ ⟨rfl, rfl⟩, H.out.2.keep hs2 (by have := H.out.1.lt; omega), (Keep.of_below HX.out.below _).then hs2 (fun q hq e => by omega)⟩
    | true =>
      have hR := HRR.out
      rw [if_pos hTh] at hR
      have HRR := Aside0.mk hR
      have HTH := Aside0.mk hTh
      clear hR hTh
      have d0 := blk_cell HX.out.c0 0
      have t2 := H.out.2.fix.2.2.1
      by_cases hb : b ≤ F.steps
      · have hb2 : (b ≤ F.steps) = True := eq_true hb
        have hR := HRR.out
        rw [if_pos hb] at hR
        have HRR := Aside0.mk hR
        clear hR hb
        go_wp2_with fail
        go_quiet (fail)
        go_wp2_with fail
        refine (ffails_any _ _).mono ?_
        rintro e w3 ⟨rfl, hb3⟩
        clear d0 t2 hb2
        have hbd := (pw_below_drewN (Below.refl w2.heap.size w2) nq).trans (hb3.mono (pw_below_drewN (Below.refl w2.heap.size w2) nq).size)
        have HX := Aside0.mk (HX.out.below2 hbd)
        have H := Aside0.mk (And.intro H.out.1 (H.out.1.below HX.out.below))
        clear hb3 hbd
        unfold efV
        have hc1 := HX.out.c1
        have HC1 := Aside0.mk hc1
        have q0 := blk_cell hc1 0
        have q1 := blk_cell hc1 1
        have q2 := blk_cell hc1 2
        have q3 := blk_cell hc1 3
        have q4 := blk_cell hc1 4
        have q5 := blk_cell hc1 5
        have q6 := blk_cell hc1 6
        have q7 := blk_cell hc1 7
        have f0 := blk_frozen hc1 0
        have f1 := blk_frozen hc1 1
        have f2 := blk_frozen hc1 2
        have f3 := blk_frozen hc1 3
        have f4 := blk_frozen hc1 4
        have f5 := blk_frozen hc1 5
        have f6 := blk_frozen hc1 6
        have f7 := blk_frozen hc1 7
        clear hc1
        go_wp2_with fail
        obtain ⟨hs1, hs2⟩ := storeE_at HC1.out (efFails 3) none 0 none 0
        rw [HRR.out]
        exact ⟨rfl, _, exec_results (e := efFails 3) rfl rfl hs1, none, 0, none, 0, rfl, EfC.plain _ _ _ ⟨rfl, rfl⟩, H.out.2.keep hs2 (by have := H.out.1.lt; omega), (Keep.of_below HX.out.below _).then hs2 (fun q hq e => by omega)⟩
      · have hb2 : (b ≤ F.steps) = False := eq_false hb
        have hR := HRR.out
        rw [if_neg hb] at hR
        have HRR := Aside0.mk hR
        have HBS := Aside0.mk hb
        clear hR hb
        go_wp2_with fail
        go_quiet (fail)
        go_upto_region 7 with (fail)
        have hbd := pw_below_drewN (Below.refl w2.heap.size w2) nq
        have HX := Aside0.mk (HX.out.below2 hbd)
        have H := Aside0.mk (And.intro H.out.1 (H.out.1.below HX.out.below))
        clear hbd d0 t2 hb2
        generalize w2.drewN nq = W at HX H ⊢
        have hth := HTH.out
        unfold thereP at hth
        have hth := of_decide_eq_true hth
        obtain ⟨f, hf⟩ : ∃ f : Nat, F.fn = f := ⟨F.fn.toNat, by omega⟩
        obtain ⟨a, ha⟩ : ∃ a : Nat, F.at_ = a := ⟨F.at_.toNat, by omega⟩
        rw [hf, ha] at hth
        have hCw := Kd.C_below HC.out.1 HX.out.below
        obtain ⟨ad1, A1, c1, e1, p0, p1, hc1, hC1⟩ := at_T68 hCw (f : Int) (by omega) (by omega)
        obtain ⟨code, hcode⟩ : ∃ code, code = (rd_T68 l (f : Int)).f1 := ⟨_, rfl⟩
        rw [← hcode] at p1 hc1 hC1 hth
        obtain ⟨ad2, e2, hx0, hx1, hx2, hx3, hx4⟩ := at_T65 hC1 (a : Int) (by omega) (by omega)
        obtain ⟨x, hx⟩ : ∃ x, x = rd_T65 code (a : Int) := ⟨_, rfl⟩
        rw [← hx] at hx0 hx1 hx2 hx3 hx4
        have hIO : IOk l code.length x := by
          have hl := check_ok (of_decide_eq_true HRT.out).1
          have hfl : f < l.length := by omega
          have hrd : rd_T68 l (f : Int) = l[f] := by simp [rd_T68, hfl]
          have h9 := (hl.fn f hfl).2.2.1
          rw [hrd] at hcode
          subst hcode
          have hal : a < l[f].f1.length := by omega
          have h8 := h9 a hal
          have e9 : rd_T65 l[f].f1 (a : Int) = l[f].f1[a] := by simp [rd_T65, hal]
          rw [hx, e9]
          exact h8
        have hc64 : code.length ≤ 64 := by
          have hl := check_ok (of_decide_eq_true HRT.out).1
          have hfl : f < l.length := by omega
          have hrd : rd_T68 l (f : Int) = l[f] := by simp [rd_T68, hfl]
          rw [hcode, hrd]
          exact ((hl.fn f hfl).2.1).2
        have hix : instrF l F = x := by unfold instrF; rw [hf, ha, ← hcode, ← hx]
        have hR := HRR.out
        rw [hix] at hR
        have HRR := Aside0.mk hR
        have HIO := Aside0.mk (And.intro hIO (And.intro ha (And.intro hth hc64)))
        have t0 := H.out.2.fix.1
        have t1 := H.out.2.fix.2.1
        rw [hf] at t0
        rw [ha] at t1
        obtain ⟨x0, x1, x2, x3, x4⟩ := x
        simp only [Int.toNat_natCast] at p1 hx0 hx1 hx2 hx3 hx4
        have k1 : ((f : Int) < (l.length : Nat)) = True := eq_true (by omega)
        have k2 : ((a : Int) < (code.length : Nat)) = True := eq_true (by omega)
        obtain ⟨cl, hcl⟩ : ∃ cl, cl = code.length := ⟨_, rfl⟩
        rw [← hcl] at p1 k2
        have HM := Aside0.mk (And.intro t0 (And.intro t1 (And.intro p1 (And.intro hx0 (And.intro hx1 (And.intro hx2 (And.intro hx3 hx4)))))))
        subst e1 e2
        clear hcl hc64 hth hf ha hCw p0 hc1 hC1 hcode hx hIO hix hR t0 t1 p1 hx0 hx1 hx2 hx3 hx4
        refine wp_region_T (fun w' => Below W.heap.size W w') [] (.takes [0, 1, 2, 3, 4, 5, 6, 7, 8, 9, 10, 11, 12, 13] (.op 14 (.op 15 .done))) (by kernel_rfl) (by kernel_rfl) (by kernel_rfl) (by kernel_rfl) (panic_via (P := Try.prog) (fn := Try.f11) (R := ExecP fb (.slice Ap F.path.length cp) R w) (fun _ _ _ => rfl)) ?_
        have hs : Below W.heap.size W W.drew := (Below.refl _ _).drew
        have hmv : ∀ {w' : World} {p : Addr} {v : Value}, Below W.heap.size W w' → W.cell? p = some v → w'.cell? p = some v := fun hS hq => (hS.cell (World.block_lt_of_cell? W _ hq)).trans hq
        simp only [Turns.takes]
        repeat (
          (first
            | (refine runT_take (v := ?_) (by rfl) (by rfl) (fun w' hS => ?_) hs ?_
               rotate_left
               · (have t0 := hmv hS HM.out.1; have t1 := hmv hS HM.out.2.1; have p1 := hmv hS HM.out.2.2.1; have hx0 := hmv hS HM.out.2.2.2.1; have hx1 := hmv hS HM.out.2.2.2.2.1; have hx2 := hmv hS HM.out.2.2.2.2.2.1; have hx3 := hmv hS HM.out.2.2.2.2.2.2.1; have hx4 := hmv hS HM.out.2.2.2.2.2.2.2; go_simp; exact rfl))
            | refine runT_skip (by rfl) (by rfl) hs ?_)
          (try simp only [Act.put, List.setIfInBounds_toArray, List.set_cons_zero, List.set_cons_succ]))
        clear hmv k1 k2
        obtain ⟨wd, hwd⟩ : ∃ wd, wd = W.drew := ⟨_, rfl⟩
        rw [← hwd] at hs ⊢
        clear hwd
        refine runT_op (by rfl) (by rfl) (fun K hK => ?_)
        go_simp
        obtain ⟨ib, hib⟩ : ∃ ib, ib = wd.heap.size := ⟨_, rfl⟩
        rw [← hib]
        obtain ⟨w5, hw5⟩ : ∃ w5, w5 = wd.alloc (.cells #[.int .i64 0, .int .i64 0, .int .i64 0, .int .i64 0, .int .i64 0] 65) := ⟨_, rfl⟩
        rw [← hw5]
        have hb5 : Below wd.heap.size wd w5 := by rw [hw5]; exact (Below.refl wd.heap.size wd).alloc (Nat.le_refl _) _
        have hi5 : w5.heap[ib]? = some (.cells #[.int .i64 0, .int .i64 0, .int .i64 0, .int .i64 0, .int .i64 0] 65 (0, 0)) := by rw [hw5, hib]; exact alloc_blk wd _
        have hs5 := hs.trans (hb5.mono hs.size)
        refine hK _ _ hs5 ?_
        have HIB := Aside0.mk (show W.heap.size ≤ ib by rw [hib]; exact hs.size)
        clear hK K hib hw5
        (try simp only [Act.put, List.setIfInBounds_toArray, List.set_cons_zero, List.set_cons_succ])
        have q0 := blk_cell hi5 0
        have q1 := blk_cell hi5 1
        have q2 := blk_cell hi5 2
        have q3 := blk_cell hi5 3
        have q4 := blk_cell hi5 4
        have f0 := blk_frozen hi5 0
        have f1 := blk_frozen hi5 1
        have f2 := blk_frozen hi5 2
        have f3 := blk_frozen hi5 3
        have f4 := blk_frozen hi5 4
        refine runT_op (by rfl) (by rfl) (fun K hK => ?_)
        go_simp
        obtain ⟨W2, hW2⟩ : ∃ W2, W2 = ((((w5.setCell ⟨ib, 0, none⟩ (.int .i64 x0)).setCell ⟨ib, 1, none⟩ (.int .i64 x1)).setCell ⟨ib, 2, none⟩ (.int .i64 x2)).setCell ⟨ib, 3, none⟩ (.int .i64 x3)).setCell ⟨ib, 4, none⟩ (.int .i64 x4) := ⟨_, rfl⟩
        rw [← hW2]
        have hkk : Keep (fun q => q = ib) w5 W2 := by
          rw [hW2]
          exact (((((Keep.refl (fun q => q = ib) w5).set (p := ⟨ib, 0, none⟩) (.inr rfl) _).set (p := ⟨ib, 1, none⟩) (.inr rfl) _).set (p := ⟨ib, 2, none⟩) (.inr rfl) _).set (p := ⟨ib, 3, none⟩) (.inr rfl) _).set (p := ⟨ib, 4, none⟩) (.inr rfl) _
        have hi6 : W2.heap[ib]? = some (.cells #[.int .i64 x0, .int .i64 x1, .int .i64 x2, .int .i64 x3, .int .i64 x4] 65 (0, 0)) := by
          have := blk_set (blk_set (blk_set (blk_set (blk_set hi5 0 (.int .i64 x0)) 1 (.int .i64 x1)) 2 (.int .i64 x2)) 3 (.int .i64 x3)) 4 (.int .i64 x4)
          rw [hW2]; exact this
        have hs6 : Below W.heap.size W W2 := hs5.trans (hkk.below hs5.size (fun q hq e => by have := HIB.out; omega))
        refine hK _ _ hs6 ?_
        clear hK K q0 q1 q2 q3 q4 f0 f1 f2 f3 f4
        refine runT_done ?_
        have HC1L := Aside0.mk (blk_lt HX.out.c1)
        have HX := Aside0.mk (HX.out.below2 hs6)
        have H := Aside0.mk (And.intro H.out.1 (H.out.1.below HX.out.below))
        have HI := Aside0.mk (And.intro hi6 (show w.heap.size + 1 < ib from Nat.lt_of_lt_of_le HC1L.out HIB.out))
        clear hs hs5 hs6 hkk hi6 hi5 hb5 hW2
        generalize W2 = W at HX H HI ⊢
        have t2 := H.out.2.fix.2.2.1
        have z2 := H.out.2.frozen 2
        have hbnd : b ≤ 10000 := (of_decide_eq_true HRT.out).2.1.2
        have hws : IntKind.i64.wrap (F.steps + 1) = F.steps + 1 := IntWalk.i64_in _ (by have := HP.out.2.2.2; have := HBS.out; omega)
        have hwa : IntKind.i64.wrap ((a : Int) + 1) = (a : Int) + 1 := IntWalk.i64_in _ (by have h9 := HIO.out.2.2.1; have h8 := HIO.out.2.2.2; omega)
        clear hbnd
        go_upto_region 9 with (fail)
        obtain ⟨W3, hW3⟩ : ∃ W3, W3 = W.setCell ⟨fb, 2, none⟩ (.int .i64 (F.steps + 1)) := ⟨_, rfl⟩
        rw [← hW3]
        have hF3 := H.out.2.setSteps (F.steps + 1)
        have hk3 : Keep (fun q => q = fb) W W3 := by rw [hW3]; exact (Keep.refl (fun q => q = fb) W).set (p := ⟨fb, 2, none⟩) (.inr rfl) _
        rw [← hW3] at hF3
        have H3 := Aside0.mk (And.intro hF3 hk3)
        have t1 : W3.cell? ⟨fb, 1, none⟩ = some (.int .i64 (a : Int)) := by rw [← HIO.out.2.1]; exact hF3.fix.2.1
        have z1 := hF3.frozen 1
        clear t2 z2 hws hW3 hF3 hk3
        go_upto_region 10 with (fail)
        obtain ⟨W4, hW4⟩ : ∃ W4, W4 = W3.setCell ⟨fb, 1, none⟩ (.int .i64 ((a : Int) + 1)) := ⟨_, rfl⟩
        rw [← hW4]
        have hF4 := H3.out.1.setAt ((a : Int) + 1)
        have hk4 : Keep (fun q => q = fb) W W4 := H3.out.2.trans (by rw [hW4]; exact (Keep.refl (fun q => q = fb) W3).set (p := ⟨fb, 1, none⟩) (.inr rfl) _)
        rw [← hW4] at hF4
        have hF4' : FB fb (stepF F) (.slice Ap F.path.length cp) W4 := by
          have e : stepF F = { F with steps := F.steps + 1, at_ := (a : Int) + 1 } := by unfold stepF; rw [HIO.out.2.1]
          rw [e]; exact hF4
        have HX4 := Aside0.mk (And.intro (hk4.blk HX.out.c0 (by have := H.out.1.lt; omega)) (And.intro (hk4.blk HX.out.c1 (by have := H.out.1.lt; omega)) (hk4.blk HI.out.1 (by have := H.out.1.lt; have := HI.out.2; omega))))
        have H4 := Aside0.mk (And.intro hF4' hk4)
        clear t1 z1 hwa hW4 hF4 hF4' hk4
        refine wp_region_T (fun w' => w'.heap[w.heap.size]? = W4.heap[w.heap.size]? ∧ w'.heap[ib]? = W4.heap[ib]?) [] (.takes [1, 2, 4, 5, 6, 7, 8] (.op 0 (.op 3 (.op 9 (.op 10 (.op 11 .done)))))) (by kernel_rfl) (by kernel_rfl) (by kernel_rfl) (by kernel_rfl) (panic_via (P := Try.prog) (fn := Try.f11) (R := ExecP fb (.slice Ap F.path.length cp) R w) (fun _ _ _ => rfl)) ?_
        have hs : W4.drew.heap[w.heap.size]? = W4.heap[w.heap.size]? ∧ W4.drew.heap[ib]? = W4.heap[ib]? := ⟨rfl, rfl⟩
        simp only [Turns.takes]
        repeat (
          (first
            | (refine runT_take (v := ?_) (by rfl) (by rfl) (fun w' hS => ?_) hs ?_
               rotate_left
               · (have hL := hS.1.trans HX4.out.1; have hI := hS.2.trans HX4.out.2.2; have d0 := blk_cell hL 0; have d1 := blk_cell hL 1; have c0 := blk_cell hI 0; have c1 := blk_cell hI 1; have c2 := blk_cell hI 2; have c3 := blk_cell hI 3; have c4 := blk_cell hI 4; go_simp; exact rfl))
            | refine runT_skip (by rfl) (by rfl) hs ?_)
          (try simp only [Act.put, List.setIfInBounds_toArray, List.set_cons_zero, List.set_cons_succ]))
        have hbd : Below W4.heap.size W4 W4.drew := (Below.refl _ _).drew
        obtain ⟨wd, hwd⟩ : ∃ wd, wd = W4.drew := ⟨_, rfl⟩
        rw [← hwd] at hs hbd ⊢
        clear hwd
        refine runT_op (by rfl) (by rfl) (fun K hK => ?_)
        go_simp
        refine (fdeeds_any wd).mono ?_
        rintro e w6 ⟨rfl, hb6, hD6⟩
        have hb46 : Below W4.heap.size W4 w6 := hbd.trans (hb6.mono hbd.size)
        have hs6 : w6.heap[w.heap.size]? = W4.heap[w.heap.size]? ∧ w6.heap[ib]? = W4.heap[ib]? := ⟨hb46.block _ (blk_lt HX4.out.1), hb46.block _ (blk_lt HX4.out.2.2)⟩
        refine hK _ _ hs6 ?_
        have HD6 := Aside0.mk hD6
        have HB6 := Aside0.mk hb46
        obtain ⟨mb, hmb⟩ : ∃ mb, mb = wd.heap.size := ⟨_, rfl⟩
        rw [← hmb] at hD6 ⊢
        clear hK K hb6 hs hbd hb46 HD6 hmb
        (try simp only [Act.put, List.setIfInBounds_toArray, List.set_cons_zero, List.set_cons_succ])
        have hop : 1 ≤ x0 ∧ x0 ≤ 17 := HIO.out.1.op
        have hlook := hD6.look x0 hop.1 hop.2
        clear hD6
        refine runT_op (by rfl) (by rfl) (fun K hK => ?_)
        go_simp
        refine hK _ _ hs6 ?_
        clear hK K hlook
        (try simp only [Act.put, List.setIfInBounds_toArray, List.set_cons_zero, List.set_cons_succ])
        have hent := fun args w => fdeed_enter hop args w
        refine runT_op (by rfl) (by rfl) (fun K hK => ?_)
        go_simp
        have hl := check_ok (of_decide_eq_true HRT.out).1
        have hk16 : Keep (fun q => q = fb) w w6 := ((Keep.of_below HX.out.below _).trans H4.out.2).trans (Keep.of_below HB6.out _)
        refine (do_any (F := stepF F) (x := ⟨x0, x1, x2, x3, x4⟩) hl (HCK.out.1 w6 hk16) (HCK.out.2 w6 hk16) HP.out.2.1 HP.out.2.2.1 (H4.out.1.below HB6.out) HIO.out.1 (of_decide_eq_true HRT.out).2.2.2).mono ?_
        obtain ⟨q, hq⟩ : ∃ q, q = doF l d ⟨x0, x1, x2, x3, x4⟩ (stepF F) := ⟨_, rfl⟩
        rw [← hq]
        have hR := HRR.out
        rw [← hq] at hR
        have HRR := Aside0.mk hR
        rintro e w7 ⟨Aa, ca, Ab, cb, rfl, hE, hF, hk⟩
        have hs7 : w7.heap[w.heap.size]? = W4.heap[w.heap.size]? ∧ w7.heap[ib]? = W4.heap[ib]? := ⟨(hk.block _ (Nat.lt_of_lt_of_le (blk_lt HX4.out.1) HB6.out.size) (by have := H.out.1.lt; omega)).trans hs6.1, (hk.block _ (Nat.lt_of_lt_of_le (blk_lt HX4.out.2.2) HB6.out.size) (by have := H.out.1.lt; have := HI.out.2; omega)).trans hs6.2⟩
        refine hK _ _ hs7 ?_
        have hc7 : w7.heap[w.heap.size + 1]? = some zEff := hk.blk ((HB6.out.block _ (blk_lt HX4.out.2.1)).trans HX4.out.2.1) (by have := H.out.1.lt; omega)
        have HC7 := Aside0.mk hc7
        have H7 := Aside0.mk (And.intro hE (And.intro hF hk))
        clear hK K hl hq hR hE hF hk hs6 hent hk16
        (try simp only [Act.put, List.setIfInBounds_toArray, List.set_cons_zero, List.set_cons_succ])
        have q0 := blk_cell hc7 0
        have q1 := blk_cell hc7 1
        have q2 := blk_cell hc7 2
        have q3 := blk_cell hc7 3
        have q4 := blk_cell hc7 4
        have q5 := blk_cell hc7 5
        have q6 := blk_cell hc7 6
        have q7 := blk_cell hc7 7
        have f0 := blk_frozen hc7 0
        have f1 := blk_frozen hc7 1
        have f2 := blk_frozen hc7 2
        have f3 := blk_frozen hc7 3
        have f4 := blk_frozen hc7 4
        have f5 := blk_frozen hc7 5
        have f6 := blk_frozen hc7 6
        have f7 := blk_frozen hc7 7
        clear hc7
        unfold efV
        refine runT_op (by rfl) (by rfl) (fun K hK => ?_)
        go_simp
        clear q0 q1 q2 q3 q4 q5 q6 q7 f0 f1 f2 f3 f4 f5 f6 f7
        obtain ⟨hs1, hs2⟩ := storeE_at HC7.out q.1 Aa ca Ab cb
        have hs8 : (storeE w7 (w.heap.size + 1) q.1 Aa ca Ab cb).heap[w.heap.size]? = W4.heap[w.heap.size]? ∧ (storeE w7 (w.heap.size + 1) q.1 Aa ca Ab cb).heap[ib]? = W4.heap[ib]? := ⟨(hs2.block _ (Nat.lt_of_lt_of_le (Nat.lt_of_lt_of_le (blk_lt HX4.out.1) HB6.out.size) H7.out.2.2.size) (by omega)).trans hs7.1, (hs2.block _ (Nat.lt_of_lt_of_le (Nat.lt_of_lt_of_le (blk_lt HX4.out.2.2) HB6.out.size) H7.out.2.2.size) (by have := HI.out.2; omega)).trans hs7.2⟩
        refine hK _ _ hs8 ?_
        clear hK K hs7
        obtain ⟨W8, hW8⟩ : ∃ W8, W8 = storeE w7 (w.heap.size + 1) q.1 Aa ca Ab cb := ⟨_, rfl⟩
        rw [← hW8] at hs1 hs2 hs8
        have H8 := Aside0.mk (And.intro hs1 hs2)
        have e8 : (((((((w7.setCell ⟨w.heap.size + 1, 0, none⟩ (.int .i64 q.1.kind)).setCell ⟨w.heap.size + 1, 1, none⟩ (.int .i64 q.1.value)).setCell ⟨w.heap.size + 1, 2, none⟩ (.int .i64 q.1.reg)).setCell ⟨w.heap.size + 1, 3, none⟩ (.int .i64 q.1.fn)).setCell ⟨w.heap.size + 1, 4, none⟩ (.int .i64 q.1.hand)).setCell ⟨w.heap.size + 1, 5, none⟩ (.int .i64 q.1.why)).setCell ⟨w.heap.size + 1, 6, none⟩ (.slice Aa q.1.args.length ca)).setCell ⟨w.heap.size + 1, 7, none⟩ (.slice Ab q.1.path.length cb) = W8 := hW8.symm
        rw [e8]
        clear hW8 e8 hs1 hs2
        (try simp only [Act.put, List.setIfInBounds_toArray, List.set_cons_zero, List.set_cons_succ])
        refine runT_op (by rfl) (by rfl) (fun K hK => ?_)
        go_simp
        refine hK _ _ hs8 ?_
        clear hK K hs8
        refine runT_done ?_
        go_wp2_with fail
        show bodyPost _ _ (ExecP fb (.slice Ap F.path.length cp) R w) _ _ _
        rw [HRR.out]
        have hsz : w.heap.size ≤ w6.heap.size := Nat.le_trans (Nat.le_trans HX.out.below.size H4.out.2.size) HB6.out.size
        have hlt1 := Nat.lt_of_lt_of_le (blk_lt HX4.out.2.1) HB6.out.size
        refine ⟨rfl, _, exec_results (e := q.1) (Aa := Aa) (ca := ca) (Ab := Ab) (cb := cb) rfl rfl H8.out.1, Aa, ca, Ab, cb, rfl, ?_, H7.out.2.1.keep H8.out.2 (by have := H.out.1.lt; omega), ?_⟩
        · have h9 := H7.out.1.keep H8.out.2 (fun q hq hl e => by omega)
          exact ⟨h9.args, h9.argsC, h9.path, h9.pathC, h9.newA.imp id (fun ⟨ad, e1, e2⟩ => ⟨ad, e1, by omega⟩), h9.newP.imp id (fun ⟨ad, e1, e2⟩ => ⟨ad, e1, by omega⟩)⟩
        · exact ((((Keep.of_below HX.out.below _).trans H4.out.2).trans (Keep.of_below HB6.out _)).trans H7.out.2.2).then H8.out.2 (fun q hq e => by omega)
end Go.Proofs.Ytcciejcpijlkfaa.H

set_option linter.unusedVariables false
set_option linter.unusedSimpArgs false
namespace Go.Proofs.Ytcciejcpijlkfaa.H
open Go.RowKit Go.Hay Go.Proofs.YtcciejcpijlkfaaW.PrintWords Go.Proofs.YtcciejcpijlkfaaW.PrintLast Go.Proofs.YtcciejcpijlkfaaW.PrintMore
theorem args_cellsF {w : World} {A : Option Addr} {xs : List Int} (h : (Kd.int .i64).C w A xs.length xs) (hx : 0 < xs.length) : ∃ ad, A = some ad ∧ ∀ j v, (xs.map (Value.int .i64))[j]? = some v → w.cell? (ad.add j) = some v := by
  obtain ⟨_, _, h3⟩ := h
  obtain ⟨ad, e, h4⟩ := h3 hx
  refine ⟨ad, e, fun j v hj => ?_⟩
  rw [List.getElem?_map] at hj
  cases hp : xs[j]? with
  | none => rw [hp] at hj; cases hj
  | some p =>
    rw [hp] at hj
    cases hj
    obtain ⟨cs, h5, h6, h7⟩ := h4 j p hp
    have h6 : cs = [.int .i64 p] := h6
    subst h6
    have := h7 0 _ rfl
    have e2 : j * (Kd.int .i64).sz + 0 = j := Nat.mul_one j
    rwa [e2] at this
theorem splice_fr (h5 rest : List Value) (hl : h5.length = 5) (args : List Int) :
    splice (h5 ++ ((List.replicate 8 (0 : Int)).map (Value.int .i64) ++ rest)) 5 ((args.take 8).map (Value.int .i64)) = h5 ++ ((newRegs args).map (Value.int .i64) ++ rest) := by
  obtain ⟨n, hn⟩ : ∃ n, n = (args.take 8).length := ⟨_, rfl⟩
  have hn8 : n ≤ 8 := by rw [hn, List.length_take]; omega
  have e0 : 8 - args.length = 8 - n := by rw [hn, List.length_take]; omega
  unfold splice newRegs
  rw [List.length_map, List.map_append, ← hn, e0]
  have e2 : (h5 ++ ((List.replicate 8 (0 : Int)).map (Value.int .i64) ++ rest)).take 5 = h5 := by rw [← hl, List.take_left]
  have e3 : (h5 ++ ((List.replicate 8 (0 : Int)).map (Value.int .i64) ++ rest)).drop (5 + n) = (List.replicate (8 - n) (0 : Int)).map (Value.int .i64) ++ rest := by
    have : (h5 ++ ((List.replicate 8 (0 : Int)).map (Value.int .i64) ++ rest)).drop (5 + n) = ((List.replicate 8 (0 : Int)).map (Value.int .i64) ++ rest).drop n := by
      rw [← hl, List.drop_length_add_append]
    rw [this, List.drop_append_of_le_length (by simp; omega), ← List.map_drop, List.drop_replicate]
  rw [e2, e3, List.append_assoc]
theorem slice_regs_allF (fb : Nat) (w : World) : (Instr.sliceAt 24 (.pointer (some ⟨fb, 5, none⟩)) none none none).run Try.prog w = .ok (.slice (some ⟨fb, 5, none⟩) 8 8) w := by
  have hal : Try.prog.arrayLen 24 = 8 := by kernel_rfl
  have hel : Try.prog.elem 24 = 2 := by kernel_rfl
  have ht : Try.prog.underlying 24 = some (.array (Try.prog.arrayLen 24) (Try.prog.elem 24)) := by rw [hal, hel]; exact Try.underlying24
  have hsz : ∀ w, (sizeOf 2).run Try.prog w = .ok 1 w := fun _ => by kernel_rfl
  rw [run_sliceAt_array_all w 24 ⟨fb, 5, none⟩ ht, hal, hel, hsz]
  rfl
/-- what New leaves: a frame of its own, whose path's row is its own. -/
def NewP (F : Fr) (w : World) (x : Ending) (w' : World) : Prop :=
  ∃ fb Ap cp, x = .returned (.pointer (some ⟨fb, 0, none⟩)) ∧ w.heap.size ≤ fb ∧ FB fb F (.slice Ap F.path.length cp) w' ∧ Below w.heap.size w w' ∧ F.path.length ≤ cp ∧ (Ap = none → cp = 0) ∧ (F.path = [] ∨ ∃ ad, Ap = some ad ∧ w.heap.size ≤ ad.block ∧ ad.block < fb) ∧ (Kd.int .i64).C w' Ap F.path.length F.path
set_option maxRecDepth 100000 in
set_option maxHeartbeats 8000000 in
theorem New_any (fn : Int) (Ap : Option Addr) (cp : Nat) (path : List Int) (Aa : Option Addr) (ca : Nat) (args : List Int) (h0 h1 h2 h3 : Int) (w : World) (hP : (Kd.int .i64).C w Ap path.length path) (hpc : path.length ≤ cp) (hpn : Ap = none → cp = 0) (hpl : path.length ≤ 1000) (hA : (Kd.int .i64).C w Aa args.length args) (hac : args.length ≤ ca) :
    Calls Try.prog 18 #[.int .i64 fn, .slice Ap path.length cp, .slice Aa args.length ca, .agg #[.int .i64 h0, .int .i64 h1, .int .i64 h2, .int .i64 h3]] w (NewP (newFr fn path args [h0, h1, h2, h3]) w) := by
  obtain ⟨W, hW⟩ : ∃ W, W = w.alloc (.cells #[.int .i64 h0, .int .i64 h1, .int .i64 h2, .int .i64 h3] 25) := ⟨_, rfl⟩
  have hb1 : Below w.heap.size w W := by rw [hW]; exact (Below.refl w.heap.size w).alloc (Nat.le_refl _) _
  have hbx : W.heap[w.heap.size]? = some (.cells #[.int .i64 h0, .int .i64 h1, .int .i64 h2, .int .i64 h3] 25 (0, 0)) := by rw [hW]; exact alloc_blk w _
  have HW := Aside0.mk hW
  have H1 := Aside0.mk (And.intro hb1 hbx)
  have H0 := Aside0.mk (And.intro hP (And.intro hpc (And.intro hpn (And.intro hpl (And.intro hA hac)))))
  clear hW hb1 hbx hP hpc hpn hpl hA hac
  go_enter Try.func18, Try.ntmps18
  go_upto_region 1 with (fail)
  rw [← HW.out]
  refine wp_region_T (fun w' => Below W.heap.size W w') [] (.takes [0, 1, 3] (.op 2 (.takes [4] (.op 5 (.op 6 .done))))) (by kernel_rfl) (by kernel_rfl) (by kernel_rfl) (by kernel_rfl) (panic_via (P := Try.prog) (fn := Try.f18) (R := NewP (newFr fn path args [h0, h1, h2, h3]) w) (fun _ _ _ => rfl)) ?_
  have hs : Below W.heap.size W W.drew := (Below.refl _ _).drew
  simp only [Turns.takes]
  repeat (
    (first
      | (refine runT_take (v := ?_) (by rfl) (by rfl) (fun w' hS => ?_) hs ?_
         rotate_left
         · (have hX := (hS.block _ (blk_lt H1.out.2)).trans H1.out.2; have d0 := blk_cell hX 0; have d1 := blk_cell hX 1; have d2 := blk_cell hX 2; have d3 := blk_cell hX 3; go_simp; exact rfl))
      | refine runT_skip (by rfl) (by rfl) hs ?_)
    (try simp only [Act.put, List.setIfInBounds_toArray, List.set_cons_zero, List.set_cons_succ]))
  refine runT_op (by rfl) (by rfl) (fun K hK => ?_)
  go_simp
  refine (clonei_any Ap cp path _ (Kd.C_below H0.out.1 (H1.out.1.trans (hs.mono H1.out.1.size))) (fun e => by have h1 := H0.out.2.2.1 e; have h2 := H0.out.2.1; exact ⟨h1, List.eq_nil_of_length_eq_zero (by omega)⟩) H0.out.2.2.2.1).mono ?_
  rintro e w1 ⟨v, rfl, hR, hb⟩
  have hs1 := hs.trans (hb.mono hs.size)
  refine hK _ _ hs1 ?_
  obtain ⟨A', c', rfl⟩ := Kd.R_slice hR
  clear hK K
  (try simp only [Act.put, List.setIfInBounds_toArray, List.set_cons_zero, List.set_cons_succ])
  have hs := hs1
  repeat (
    (first
      | (refine runT_take (v := ?_) (by rfl) (by rfl) (fun w' hS => ?_) hs ?_
         rotate_left
         · (skip; go_simp; exact rfl))
      | refine runT_skip (by rfl) (by rfl) hs ?_)
    (try simp only [Act.put, List.setIfInBounds_toArray, List.set_cons_zero, List.set_cons_succ]))
  refine runT_op (by rfl) (by rfl) (fun K hK => ?_)
  go_simp
  obtain ⟨fb, hfb⟩ : ∃ fb, fb = w1.heap.size := ⟨_, rfl⟩
  rw [← hfb]
  obtain ⟨W2, hW2⟩ : ∃ W2, W2 = w1.alloc (.cells #[.int .i64 fn, .int .i64 0, .int .i64 0, .int .i64 0, .slice A' path.length c', .int .i64 0, .int .i64 0, .int .i64 0, .int .i64 0, .int .i64 0, .int .i64 0, .int .i64 0, .int .i64 0, .int .i64 h0, .int .i64 h1, .int .i64 h2, .int .i64 h3] 62) := ⟨_, rfl⟩
  rw [← hW2]
  have hb2 : Below w1.heap.size w1 W2 := by rw [hW2]; exact (Below.refl w1.heap.size w1).alloc (Nat.le_refl _) _
  have hn2 : W2.heap[fb]? = some (.cells (frcells ⟨fn, 0, 0, 0, path, List.replicate 8 0, [h0, h1, h2, h3]⟩ (.slice A' path.length c')).toArray 62 (0, 0)) := by rw [hW2, hfb]; exact alloc_blk w1 _
  have hs2 := hs.trans (hb2.mono hs.size)
  refine hK _ _ hs2 ?_
  have hwt : w.heap.size ≤ fb := by rw [hfb]; exact Nat.le_trans H1.out.1.size hs.size
  have hq := Kd.R_reads' hR
  have hown := R_new hR
  have hlt : ∀ ad, A' = some ad → path ≠ [] → ad.block < w1.heap.size := fun ad e hne => by
    obtain ⟨g, cp', hv, _⟩ := Kd.R_form hR (List.length_pos_iff.2 hne)
    injection hv with hA _ _
    rw [hA] at e; cases e
    rw [hA] at hR
    exact (nums_own hR g rfl).2.2
  have hnil : A' = none → c' = 0 := fun e => by
    subst e
    obtain ⟨_, inner, ⟨h1, h2⟩, h3, h4⟩ := hR
    rcases h2 with h2 | ⟨g, cap, cur, e, _⟩
    · injection h2.1
    · cases e
  have HPP := Aside0.mk (And.intro (Kd.C_below hq.2.2 hb2) (And.intro hq.2.1 (And.intro hnil (show path = [] ∨ ∃ ad, A' = some ad ∧ w.heap.size ≤ ad.block ∧ ad.block < fb from by
    by_cases hpe : path = []
    · exact .inl hpe
    · rcases hown with e | ⟨ad, e1, e2⟩
      · exact absurd e hpe
      · exact .inr ⟨ad, e1, Nat.le_trans H1.out.1.size e2, by have := hlt ad e1 hpe; omega⟩))))
  have HS2 := Aside0.mk hs2
  have H2 := Aside0.mk (And.intro (H1.out.1.trans (hs2.mono H1.out.1.size)) (And.intro hn2 hwt))
  clear hK K hs hs1 hs2 hb hb2 hn2 hwt hW2 hfb hq hown hlt hnil hR
  (try simp only [Act.put, List.setIfInBounds_toArray, List.set_cons_zero, List.set_cons_succ])
  refine runT_op (by rfl) (by rfl) (fun K hK => ?_)
  go_simp
  refine hK _ _ HS2.out ?_
  clear hK K
  refine runT_done ?_
  have hsl := slice_regs_allF fb
  obtain ⟨cs, hcs⟩ : ∃ cs, cs = (args.take 8).map (Value.int .i64) := ⟨_, rfl⟩
  have hcl : cs.length = Nat.min args.length 8 := by rw [hcs, List.length_map, List.length_take]; exact Nat.min_comm _ _
  have HCS := Aside0.mk (And.intro hcs hcl)
  have hs1 : 0 < cs.length → some (⟨fb, 5, none⟩ : Addr) = some ⟨fb, 5, none⟩ ∧ ∃ ad, Aa = some ad ∧ ∀ j v, cs[j]? = some v → W2.cell? (ad.add j) = some v := by
    intro hp
    have hp0 : 0 < args.length := by rw [hcl] at hp; have h9 : Nat.min args.length 8 ≤ args.length := Nat.min_le_left _ _; omega
    obtain ⟨ad, e, h⟩ := args_cellsF (Kd.C_below H0.out.2.2.2.2.1 H2.out.1) hp0
    refine ⟨rfl, ad, e, fun j v hj => h j v ?_⟩
    rw [HCS.out.1, List.map_take] at hj
    by_cases hj8 : j < 8
    · rwa [List.getElem?_take_of_lt hj8] at hj
    · rw [List.getElem?_eq_none (by rw [List.length_take]; omega)] at hj; cases hj
  have hs2 : 5 + cs.length ≤ (frcells ⟨fn, 0, 0, 0, path, List.replicate 8 0, [h0, h1, h2, h3]⟩ (.slice A' path.length c')).length := by
    have h9 : (frcells ⟨fn, 0, 0, 0, path, List.replicate 8 0, [h0, h1, h2, h3]⟩ (.slice A' path.length c')).length = 17 := rfl
    rw [h9, hcl]; have h9 : Nat.min args.length 8 ≤ 8 := Nat.min_le_right _ _; omega
  have hs3 : ∀ v ∈ cs, v.oneCell' = true := by
    intro v hv
    rw [HCS.out.1] at hv
    obtain ⟨x, _, rfl⟩ := List.mem_map.1 hv
    rfl
  have HS := Aside0.mk (And.intro hcl (And.intro hs1 (And.intro hs2 hs3)))
  clear hcs hcl hs1 hs2 hs3
  go_upto_region 3 with (first | (refine wpList_copy_splice rfl (.tmp 19) (.tmp 20) 34 34 rfl 2 Try.underlying34 (by kernel_rfl) (some ⟨fb, 5, none⟩) Aa 8 8 args.length ca rfl rfl fb 5 (frcells ⟨fn, 0, 0, 0, path, List.replicate 8 0, [h0, h1, h2, h3]⟩ (.slice A' path.length c')) 62 H2.out.2.1 cs HS.out.1 HS.out.2.1 HS.out.2.2.1 HS.out.2.2.2 fb W2 ((Below.refl W2.heap.size W2).mono (Nat.le_of_lt (blk_lt H2.out.2.1))) (Nat.le_refl _) ?_; intro W3 hn3 hb3; have H3 := Aside0.mk (And.intro hn3.out hb3); clear hn3 hb3) | fail)
  go_wp2_with fail
  go_ret
  have hn3 := H3.out.1
  rw [HCS.out.1] at hn3
  have e9 : splice (frcells ⟨fn, 0, 0, 0, path, List.replicate 8 0, [h0, h1, h2, h3]⟩ (.slice A' path.length c')) 5 ((args.take 8).map (Value.int .i64)) = frcells (newFr fn path args [h0, h1, h2, h3]) (.slice A' path.length c') := splice_fr _ _ rfl args
  rw [e9] at hn3
  have hPc : (Kd.int .i64).C W3 A' path.length path := by
    rcases HPP.out.2.2.2 with e | ⟨ad, e1, e2, e3⟩
    · subst e; exact ⟨rfl, by simp, fun hp => absurd hp (Nat.lt_irrefl 0)⟩
    · refine C_at (fun h => h) HPP.out.1 (fun ad' e => ?_)
      rw [e1] at e; cases e
      exact H3.out.2.block _ e3
  exact ⟨fb, A', c', rfl, H2.out.2.2, ⟨hn3, newRegsF_len args, rfl⟩, H2.out.1.trans (H3.out.2.mono H2.out.2.2), HPP.out.2.1, HPP.out.2.2.1, HPP.out.2.2.2, hPc⟩
end Go.Proofs.Ytcciejcpijlkfaa.H

