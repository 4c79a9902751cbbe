/- A jump goes where it leads: for every input. No condition. -/
import Derived.Test.YtcciejcpijlkfaaZFrameJumps3
import Derived.Laws.CopyOwn
import Derived.OpenShut
import Derived.Deep.Slices
import Derived.ChangeArms
import Derived.WideShapes
import Derived.Test.YtcciejcpijlkfaaRows
import Derived.WalkKit
import Derived.ProofKit
import Derived.ShutString
import Derived.ChangeOld
import Derived.Below
import Derived.SizedLaws
-- made by this session's gen.py over the kit's print.py; not trusted: Lean checks it
namespace Go.Proofs.Ytcciejcpijlkfaa.H
open Go.RowKit Go.Proofs.YtcciejcpijlkfaaW.PrintWords Go.Proofs.YtcciejcpijlkfaaW.PrintLast Go.Proofs.YtcciejcpijlkfaaW.PrintMore
attribute [local go_sem] max2_int min2_int max_two min_two max_three min_three max_four min_four   -- for this text's walks alone
set_option linter.unusedVariables false
set_option linter.unusedSimpArgs false

/-! ### eval_Right: function 33 -/
def eval_Right.f (l0 : List (S68)) (l1 : List Int) (a2_0 : Int) (a2_1 : Int) : Option (Bool) := (valid_Check.f l0).bind fun bt114 => (if bt114.2.2 = 0 then (if a2_0 < 1 then (some false) else (if a2_0 > 10000 then (some false) else (if a2_1 < 0 then (some false) else (if a2_1 > 30 then (some false) else (if 0 < (l0.length : Int) then (some ((l1.length : Int) == ((rd_T68 l0 0).f0))) else (none)))))) else (some false))
set_option maxHeartbeats 8000000 in
set_option maxRecDepth 100000 in
theorem eval_Right.calls (A0 : Option Addr) (c0 : Nat) (l0 : List (S68)) (A1 : Option Addr) (c1 : Nat) (l1 : List Int) (a2_0 : Int) (a2_1 : Int) (r : Bool) (w : World) (hr0 : Kd.C k68 w A0 l0.length l0) (hc0 : l0.length ≤ c0) (hr1 : Kd.C (Kd.int .i64) w A1 l1.length l1) (hc1 : l1.length ≤ c1) (h : eval_Right.f l0 l1 a2_0 a2_1 = some r) :
    Calls Try.prog 33 #[.slice A0 l0.length c0, .slice A1 l1.length c1, .agg #[.int .i64 a2_0, .int .i64 a2_1]] w fun e w' => e = .returned (.bool r) ∧ Below w.heap.size w w' := by
  have hu43 := Try.underlying43
  have HR0 := Aside0.mk hr0
  have HC0 := Aside0.mk hc0
  clear hr0 hc0
  have HR1 := Aside0.mk hr1
  have HC1 := Aside0.mk hc1
  clear hr1 hc1
  have HB := Aside0.mk (Below.refl w.heap.size w)
  have H : ((valid_Check.f l0).bind fun bt114 => (if bt114.2.2 = 0 then (if a2_0 < 1 then (some false) else (if a2_0 > 10000 then (some false) else (if a2_1 < 0 then (some false) else (if a2_1 > 30 then (some false) else (if 0 < (l0.length : Int) then (some ((l1.length : Int) == ((rd_T68 l0 0).f0))) else (none)))))) else (some false))) = some r := h
  clear h
  replace H := Option.bind_eq_some_iff.mp H
  obtain ⟨⟨t114, t115, t116⟩, A40, H⟩ := H
  replace H : (if t116 = 0 then (if a2_0 < 1 then (some false) else (if a2_0 > 10000 then (some false) else (if a2_1 < 0 then (some false) else (if a2_1 > 30 then (some false) else (if 0 < (l0.length : Int) then (some ((l1.length : Int) == ((rd_T68 l0 0).f0))) else (none)))))) else (some false)) = some r := H
  have A4 := Aside0.mk A40
  clear A40
  by_cases c5 : t116 = 0
  · rw [if_pos c5] at H
    have c5b0 : (t116 == 0) = true := beq_iff_eq.mpr c5
    have c5b1 : (t116 != 0) = false := bne_eq_false_iff_eq.mpr c5
    clear c5
    by_cases c6 : a2_0 < 1
    · rw [if_pos c6] at H
      have c6b0 : decide (a2_0 < 1) = true := decide_eq_true c6
      clear c6
      obtain rfl := Option.some.inj H
      go_enter Try.func33, Try.ntmps33
      go_wp2_with (first | ((with_reducible refine gate_dst (N := 5) rfl ?_); refine box_event ?hg (N := 5) ?hd (cs := #[.int .i64 a2_0, .int .i64 a2_1]) (t := 43) ?hr ?_; (case hd => rfl); (case hg => rfl); (case hr => first | (go_simp; done) | (go_simp; rfl)); intro gb113 hg w7 hbox hb; have n0_ := Aside0.mk (below_step (by repeat (first | (with_reducible first | exact HB.out | apply below_alloc | apply pw_below_drewN | apply below_drew1) | exact HB.out)) hb); have n1_ := Aside0.mk (hbox); have n2_ := Aside0.mk ((by rw [hg]; exact (below_size (by repeat (first | (with_reducible first | exact HB.out | apply below_alloc | apply pw_below_drewN | apply below_drew1) | exact HB.out))) : w.heap.size ≤ gb113)); have n3_ := Aside0.mk ((by rw [hg]; exact (below_size (by repeat (first | (with_reducible first | exact HB.out | apply below_alloc | apply pw_below_drewN | apply below_drew1) | exact HB.out))) : w.heap.size ≤ gb113)); clear HB; have HB := n0_; have BK113 := n1_; have GW113 := n2_; have GE113 := n3_; clear n0_ n1_ n2_ n3_; clear hb hbox hg) | ((with_reducible refine gate_callee (f := 39) rfl ?_); refine goesL_ (some 12) rfl rfl Try.func39 (by kernel_rfl) rfl #[.slice A0 l0.length c0] rfl (by (try simp only [List.map_toArray, List.map_cons, List.map_nil]); first | done | rfl | (simp only [List.length_drop, List.length_take]; rfl)) ?_; (with_reducible refine (valid_Check.calls _ _ l0 t114 t115 t116 _ ?side1 ?side2 A4.out).mono ?_); (case side1 => repeat (first | exact (Kd.C_below HR0.out HB.out) | (with_reducible refine Kd.C_alloc ?_ _) | (with_reducible refine Kd.C_drewN ?_ _) | (with_reducible refine Kd.C_drew ?_))); (case side2 => exact HC0.out); rintro e w8 ⟨rfl, hb⟩; refine ⟨_, rfl, ?_⟩; have n0_ := Aside0.mk (blk_below (g := gb113) (o := .cells #[.int .i64 a2_0, .int .i64 a2_1] 43 (0, 0)) (by (with_reducible repeat (first | refine blk_drewN ?_ _ | refine blk_drew ?_ | refine blk_alloc ?_ _)); exact BK113.out) hb); have n1_ := Aside0.mk (below_step (by repeat (first | (with_reducible first | exact HB.out | apply below_alloc | apply pw_below_drewN | apply below_drew1 | refine below_set ?_ GE113.out) | exact HB.out)) hb); clear BK113; clear HB; have BK113 := n0_; have HB := n1_; clear n0_ n1_; (try clear hb); (try clear hb2); (try clear hk); (try clear hi); have hcz9_0 : w8.cell? ⟨gb113, 0, none⟩ = some (.int .i64 a2_0) := (blk_cell BK113.out 0).trans rfl; have hcz9_1 : w8.cell? ⟨gb113, 1, none⟩ = some (.int .i64 a2_1) := (blk_cell BK113.out 1).trans rfl; have hfz9_0 := blk_frozen BK113.out 0; have hfz9_1 := blk_frozen BK113.out 1))
      go_ret
      exact ⟨by first | rfl | (simp [errW_none, errW_some] <;> rfl) | (simp [*, errW_none, errW_some] <;> rfl), by repeat (first | (with_reducible first | exact HB.out | apply below_alloc | apply pw_below_drewN | apply below_drew1 | refine below_set ?_ GE113.out) | exact HB.out)⟩
    · rw [if_neg c6] at H
      have c6b0 : decide (a2_0 < 1) = false := decide_eq_false c6
      clear c6
      by_cases c10 : a2_0 > 10000
      · rw [if_pos c10] at H
        have c10b0 : decide (10000 < a2_0) = true := decide_eq_true c10
        clear c10
        obtain rfl := Option.some.inj H
        go_enter Try.func33, Try.ntmps33
        go_wp2_with (first | ((with_reducible refine gate_dst (N := 5) rfl ?_); refine box_event ?hg (N := 5) ?hd (cs := #[.int .i64 a2_0, .int .i64 a2_1]) (t := 43) ?hr ?_; (case hd => rfl); (case hg => rfl); (case hr => first | (go_simp; done) | (go_simp; rfl)); intro gb113 hg w11 hbox hb; have n0_ := Aside0.mk (below_step (by repeat (first | (with_reducible first | exact HB.out | apply below_alloc | apply pw_below_drewN | apply below_drew1) | exact HB.out)) hb); have n1_ := Aside0.mk (hbox); have n2_ := Aside0.mk ((by rw [hg]; exact (below_size (by repeat (first | (with_reducible first | exact HB.out | apply below_alloc | apply pw_below_drewN | apply below_drew1) | exact HB.out))) : w.heap.size ≤ gb113)); have n3_ := Aside0.mk ((by rw [hg]; exact (below_size (by repeat (first | (with_reducible first | exact HB.out | apply below_alloc | apply pw_below_drewN | apply below_drew1) | exact HB.out))) : w.heap.size ≤ gb113)); clear HB; have HB := n0_; have BK113 := n1_; have GW113 := n2_; have GE113 := n3_; clear n0_ n1_ n2_ n3_; clear hb hbox hg) | ((with_reducible refine gate_callee (f := 39) rfl ?_); refine goesL_ (some 12) rfl rfl Try.func39 (by kernel_rfl) rfl #[.slice A0 l0.length c0] rfl (by (try simp only [List.map_toArray, List.map_cons, List.map_nil]); first | done | rfl | (simp only [List.length_drop, List.length_take]; rfl)) ?_; (with_reducible refine (valid_Check.calls _ _ l0 t114 t115 t116 _ ?side1 ?side2 A4.out).mono ?_); (case side1 => repeat (first | exact (Kd.C_below HR0.out HB.out) | (with_reducible refine Kd.C_alloc ?_ _) | (with_reducible refine Kd.C_drewN ?_ _) | (with_reducible refine Kd.C_drew ?_))); (case side2 => exact HC0.out); rintro e w12 ⟨rfl, hb⟩; refine ⟨_, rfl, ?_⟩; have n0_ := Aside0.mk (blk_below (g := gb113) (o := .cells #[.int .i64 a2_0, .int .i64 a2_1] 43 (0, 0)) (by (with_reducible repeat (first | refine blk_drewN ?_ _ | refine blk_drew ?_ | refine blk_alloc ?_ _)); exact BK113.out) hb); have n1_ := Aside0.mk (below_step (by repeat (first | (with_reducible first | exact HB.out | apply below_alloc | apply pw_below_drewN | apply below_drew1 | refine below_set ?_ GE113.out) | exact HB.out)) hb); clear BK113; clear HB; have BK113 := n0_; have HB := n1_; clear n0_ n1_; (try clear hb); (try clear hb2); (try clear hk); (try clear hi); have hcz13_0 : w12.cell? ⟨gb113, 0, none⟩ = some (.int .i64 a2_0) := (blk_cell BK113.out 0).trans rfl; have hcz13_1 : w12.cell? ⟨gb113, 1, none⟩ = some (.int .i64 a2_1) := (blk_cell BK113.out 1).trans rfl; have hfz13_0 := blk_frozen BK113.out 0; have hfz13_1 := blk_frozen BK113.out 1))
        go_ret
        exact ⟨by first | rfl | (simp [errW_none, errW_some] <;> rfl) | (simp [*, errW_none, errW_some] <;> rfl), by repeat (first | (with_reducible first | exact HB.out | apply below_alloc | apply pw_below_drewN | apply below_drew1 | refine below_set ?_ GE113.out) | exact HB.out)⟩
      · rw [if_neg c10] at H
        have c10b0 : decide (10000 < a2_0) = false := decide_eq_false c10
        clear c10
        by_cases c14 : a2_1 < 0
        · rw [if_pos c14] at H
          have c14b0 : decide (a2_1 < 0) = true := decide_eq_true c14
          clear c14
          obtain rfl := Option.some.inj H
          go_enter Try.func33, Try.ntmps33
          go_wp2_with (first | ((with_reducible refine gate_dst (N := 5) rfl ?_); refine box_event ?hg (N := 5) ?hd (cs := #[.int .i64 a2_0, .int .i64 a2_1]) (t := 43) ?hr ?_; (case hd => rfl); (case hg => rfl); (case hr => first | (go_simp; done) | (go_simp; rfl)); intro gb113 hg w15 hbox hb; have n0_ := Aside0.mk (below_step (by repeat (first | (with_reducible first | exact HB.out | apply below_alloc | apply pw_below_drewN | apply below_drew1) | exact HB.out)) hb); have n1_ := Aside0.mk (hbox); have n2_ := Aside0.mk ((by rw [hg]; exact (below_size (by repeat (first | (with_reducible first | exact HB.out | apply below_alloc | apply pw_below_drewN | apply below_drew1) | exact HB.out))) : w.heap.size ≤ gb113)); have n3_ := Aside0.mk ((by rw [hg]; exact (below_size (by repeat (first | (with_reducible first | exact HB.out | apply below_alloc | apply pw_below_drewN | apply below_drew1) | exact HB.out))) : w.heap.size ≤ gb113)); clear HB; have HB := n0_; have BK113 := n1_; have GW113 := n2_; have GE113 := n3_; clear n0_ n1_ n2_ n3_; clear hb hbox hg) | ((with_reducible refine gate_callee (f := 39) rfl ?_); refine goesL_ (some 12) rfl rfl Try.func39 (by kernel_rfl) rfl #[.slice A0 l0.length c0] rfl (by (try simp only [List.map_toArray, List.map_cons, List.map_nil]); first | done | rfl | (simp only [List.length_drop, List.length_take]; rfl)) ?_; (with_reducible refine (valid_Check.calls _ _ l0 t114 t115 t116 _ ?side1 ?side2 A4.out).mono ?_); (case side1 => repeat (first | exact (Kd.C_below HR0.out HB.out) | (with_reducible refine Kd.C_alloc ?_ _) | (with_reducible refine Kd.C_drewN ?_ _) | (with_reducible refine Kd.C_drew ?_))); (case side2 => exact HC0.out); rintro e w16 ⟨rfl, hb⟩; refine ⟨_, rfl, ?_⟩; have n0_ := Aside0.mk (blk_below (g := gb113) (o := .cells #[.int .i64 a2_0, .int .i64 a2_1] 43 (0, 0)) (by (with_reducible repeat (first | refine blk_drewN ?_ _ | refine blk_drew ?_ | refine blk_alloc ?_ _)); exact BK113.out) hb); have n1_ := Aside0.mk (below_step (by repeat (first | (with_reducible first | exact HB.out | apply below_alloc | apply pw_below_drewN | apply below_drew1 | refine below_set ?_ GE113.out) | exact HB.out)) hb); clear BK113; clear HB; have BK113 := n0_; have HB := n1_; clear n0_ n1_; (try clear hb); (try clear hb2); (try clear hk); (try clear hi); have hcz17_0 : w16.cell? ⟨gb113, 0, none⟩ = some (.int .i64 a2_0) := (blk_cell BK113.out 0).trans rfl; have hcz17_1 : w16.cell? ⟨gb113, 1, none⟩ = some (.int .i64 a2_1) := (blk_cell BK113.out 1).trans rfl; have hfz17_0 := blk_frozen BK113.out 0; have hfz17_1 := blk_frozen BK113.out 1))
          go_ret
          exact ⟨by first | rfl | (simp [errW_none, errW_some] <;> rfl) | (simp [*, errW_none, errW_some] <;> rfl), by repeat (first | (with_reducible first | exact HB.out | apply below_alloc | apply pw_below_drewN | apply below_drew1 | refine below_set ?_ GE113.out) | exact HB.out)⟩
        · rw [if_neg c14] at H
          have c14b0 : decide (a2_1 < 0) = false := decide_eq_false c14
          clear c14
          by_cases c18 : a2_1 > 30
          · rw [if_pos c18] at H
            have c18b0 : decide (30 < a2_1) = true := decide_eq_true c18
            clear c18
            obtain rfl := Option.some.inj H
            go_enter Try.func33, Try.ntmps33
            go_wp2_with (first | ((with_reducible refine gate_dst (N := 5) rfl ?_); refine box_event ?hg (N := 5) ?hd (cs := #[.int .i64 a2_0, .int .i64 a2_1]) (t := 43) ?hr ?_; (case hd => rfl); (case hg => rfl); (case hr => first | (go_simp; done) | (go_simp; rfl)); intro gb113 hg w19 hbox hb; have n0_ := Aside0.mk (below_step (by repeat (first | (with_reducible first | exact HB.out | apply below_alloc | apply pw_below_drewN | apply below_drew1) | exact HB.out)) hb); have n1_ := Aside0.mk (hbox); have n2_ := Aside0.mk ((by rw [hg]; exact (below_size (by repeat (first | (with_reducible first | exact HB.out | apply below_alloc | apply pw_below_drewN | apply below_drew1) | exact HB.out))) : w.heap.size ≤ gb113)); have n3_ := Aside0.mk ((by rw [hg]; exact (below_size (by repeat (first | (with_reducible first | exact HB.out | apply below_alloc | apply pw_below_drewN | apply below_drew1) | exact HB.out))) : w.heap.size ≤ gb113)); clear HB; have HB := n0_; have BK113 := n1_; have GW113 := n2_; have GE113 := n3_; clear n0_ n1_ n2_ n3_; clear hb hbox hg) | ((with_reducible refine gate_callee (f := 39) rfl ?_); refine goesL_ (some 12) rfl rfl Try.func39 (by kernel_rfl) rfl #[.slice A0 l0.length c0] rfl (by (try simp only [List.map_toArray, List.map_cons, List.map_nil]); first | done | rfl | (simp only [List.length_drop, List.length_take]; rfl)) ?_; (with_reducible refine (valid_Check.calls _ _ l0 t114 t115 t116 _ ?side1 ?side2 A4.out).mono ?_); (case side1 => repeat (first | exact (Kd.C_below HR0.out HB.out) | (with_reducible refine Kd.C_alloc ?_ _) | (with_reducible refine Kd.C_drewN ?_ _) | (with_reducible refine Kd.C_drew ?_))); (case side2 => exact HC0.out); rintro e w20 ⟨rfl, hb⟩; refine ⟨_, rfl, ?_⟩; have n0_ := Aside0.mk (blk_below (g := gb113) (o := .cells #[.int .i64 a2_0, .int .i64 a2_1] 43 (0, 0)) (by (with_reducible repeat (first | refine blk_drewN ?_ _ | refine blk_drew ?_ | refine blk_alloc ?_ _)); exact BK113.out) hb); have n1_ := Aside0.mk (below_step (by repeat (first | (with_reducible first | exact HB.out | apply below_alloc | apply pw_below_drewN | apply below_drew1 | refine below_set ?_ GE113.out) | exact HB.out)) hb); clear BK113; clear HB; have BK113 := n0_; have HB := n1_; clear n0_ n1_; (try clear hb); (try clear hb2); (try clear hk); (try clear hi); have hcz21_0 : w20.cell? ⟨gb113, 0, none⟩ = some (.int .i64 a2_0) := (blk_cell BK113.out 0).trans rfl; have hcz21_1 : w20.cell? ⟨gb113, 1, none⟩ = some (.int .i64 a2_1) := (blk_cell BK113.out 1).trans rfl; have hfz21_0 := blk_frozen BK113.out 0; have hfz21_1 := blk_frozen BK113.out 1))
            go_ret
            exact ⟨by first | rfl | (simp [errW_none, errW_some] <;> rfl) | (simp [*, errW_none, errW_some] <;> rfl), by repeat (first | (with_reducible first | exact HB.out | apply below_alloc | apply pw_below_drewN | apply below_drew1 | refine below_set ?_ GE113.out) | exact HB.out)⟩
          · rw [if_neg c18] at H
            have c18b0 : decide (30 < a2_1) = false := decide_eq_false c18
            clear c18
            by_cases c22 : 0 < (l0.length : Int)
            · rw [if_pos c22] at H
              have c22b0 : decide (0 < (l0.length : Int)) = true := decide_eq_true c22
              have c22b1 : decide (0 < l0.length) = true := decide_eq_true (by omega)
              clear c22
              obtain rfl := Option.some.inj H
              go_enter Try.func33, Try.ntmps33
              go_wp2_with (first | ((with_reducible refine gate_dst (N := 5) rfl ?_); refine box_event ?hg (N := 5) ?hd (cs := #[.int .i64 a2_0, .int .i64 a2_1]) (t := 43) ?hr ?_; (case hd => rfl); (case hg => rfl); (case hr => first | (go_simp; done) | (go_simp; rfl)); intro gb113 hg w23 hbox hb; have n0_ := Aside0.mk (below_step (by repeat (first | (with_reducible first | exact HB.out | apply below_alloc | apply pw_below_drewN | apply below_drew1) | exact HB.out)) hb); have n1_ := Aside0.mk (hbox); have n2_ := Aside0.mk ((by rw [hg]; exact (below_size (by repeat (first | (with_reducible first | exact HB.out | apply below_alloc | apply pw_below_drewN | apply below_drew1) | exact HB.out))) : w.heap.size ≤ gb113)); have n3_ := Aside0.mk ((by rw [hg]; exact (below_size (by repeat (first | (with_reducible first | exact HB.out | apply below_alloc | apply pw_below_drewN | apply below_drew1) | exact HB.out))) : w.heap.size ≤ gb113)); clear HB; have HB := n0_; have BK113 := n1_; have GW113 := n2_; have GE113 := n3_; clear n0_ n1_ n2_ n3_; clear hb hbox hg) | ((with_reducible refine gate_callee (f := 39) rfl ?_); refine goesL_ (some 12) rfl rfl Try.func39 (by kernel_rfl) rfl #[.slice A0 l0.length c0] rfl (by (try simp only [List.map_toArray, List.map_cons, List.map_nil]); first | done | rfl | (simp only [List.length_drop, List.length_take]; rfl)) ?_; (with_reducible refine (valid_Check.calls _ _ l0 t114 t115 t116 _ ?side1 ?side2 A4.out).mono ?_); (case side1 => repeat (first | exact (Kd.C_below HR0.out HB.out) | (with_reducible refine Kd.C_alloc ?_ _) | (with_reducible refine Kd.C_drewN ?_ _) | (with_reducible refine Kd.C_drew ?_))); (case side2 => exact HC0.out); rintro e w24 ⟨rfl, hb⟩; refine ⟨_, rfl, ?_⟩; have n0_ := Aside0.mk (blk_below (g := gb113) (o := .cells #[.int .i64 a2_0, .int .i64 a2_1] 43 (0, 0)) (by (with_reducible repeat (first | refine blk_drewN ?_ _ | refine blk_drew ?_ | refine blk_alloc ?_ _)); exact BK113.out) hb); have n1_ := Aside0.mk (below_step (by repeat (first | (with_reducible first | exact HB.out | apply below_alloc | apply pw_below_drewN | apply below_drew1 | refine below_set ?_ GE113.out) | exact HB.out)) hb); clear BK113; clear HB; have BK113 := n0_; have HB := n1_; clear n0_ n1_; (try clear hb); (try clear hb2); (try clear hk); (try clear hi); have hcz25_0 : w24.cell? ⟨gb113, 0, none⟩ = some (.int .i64 a2_0) := (blk_cell BK113.out 0).trans rfl; have hcz25_1 : w24.cell? ⟨gb113, 1, none⟩ = some (.int .i64 a2_1) := (blk_cell BK113.out 1).trans rfl; have hfz25_0 := blk_frozen BK113.out 0; have hfz25_1 := blk_frozen BK113.out 1; have p117 : 0 ≤ (0 : Int) := (by omega); have q117 : 0 < (l0.length : Int) := of_decide_eq_true (by first | (with_reducible assumption) | assumption); obtain ⟨ad117, A117_1, c117_1, e117, hx117_0, hx117_1, hl117_1, hi117_1⟩ := at_T68 HR0.out 0 p117 q117; cases e117; have qi117 : (0 < l0.length) = True := eq_true (by omega); (try rw [show ((0 : Int)).toNat = 0 from rfl] at hx117_0); (try rw [show 0 * 2 = 0 from rfl] at hx117_0); (try rw [Addr.add_zero'] at hx117_0); (try rw [show ((0 : Int)).toNat = 0 from rfl] at hx117_1); (try rw [show 0 * 2 = 0 from rfl] at hx117_1); (try rw [Addr.add_zero'] at hx117_1); replace hx117_0 := (HB.out.cell (World.block_lt_of_cell? w _ hx117_0)).trans hx117_0; replace hx117_1 := (HB.out.cell (World.block_lt_of_cell? w _ hx117_1)).trans hx117_1; have HR117_1 := Aside0.mk hi117_1; have HC117_1 := Aside0.mk hl117_1; clear hi117_1 hl117_1; replace p117 := eq_true p117; replace q117 := eq_true q117))
              go_ret
              exact ⟨by first | rfl | (simp [errW_none, errW_some] <;> rfl) | (simp [*, errW_none, errW_some] <;> rfl), by repeat (first | (with_reducible first | exact HB.out | apply below_alloc | apply pw_below_drewN | apply below_drew1 | refine below_set ?_ GE113.out) | exact HB.out)⟩
            · rw [if_neg c22] at H
              exact absurd H (by simp)
  · rw [if_neg c5] at H
    have c5b0 : (t116 == 0) = false := beq_eq_false_iff_ne.mpr c5
    have c5b1 : (t116 != 0) = true := bne_iff_ne.mpr c5
    obtain rfl := Option.some.inj H
    go_enter Try.func33, Try.ntmps33
    go_wp2_with (first | ((with_reducible refine gate_dst (N := 5) rfl ?_); refine box_event ?hg (N := 5) ?hd (cs := #[.int .i64 a2_0, .int .i64 a2_1]) (t := 43) ?hr ?_; (case hd => rfl); (case hg => rfl); (case hr => first | (go_simp; done) | (go_simp; rfl)); intro gb113 hg w26 hbox hb; have n0_ := Aside0.mk (below_step (by repeat (first | (with_reducible first | exact HB.out | apply below_alloc | apply pw_below_drewN | apply below_drew1) | exact HB.out)) hb); have n1_ := Aside0.mk (hbox); have n2_ := Aside0.mk ((by rw [hg]; exact (below_size (by repeat (first | (with_reducible first | exact HB.out | apply below_alloc | apply pw_below_drewN | apply below_drew1) | exact HB.out))) : w.heap.size ≤ gb113)); have n3_ := Aside0.mk ((by rw [hg]; exact (below_size (by repeat (first | (with_reducible first | exact HB.out | apply below_alloc | apply pw_below_drewN | apply below_drew1) | exact HB.out))) : w.heap.size ≤ gb113)); clear HB; have HB := n0_; have BK113 := n1_; have GW113 := n2_; have GE113 := n3_; clear n0_ n1_ n2_ n3_; clear hb hbox hg) | ((with_reducible refine gate_callee (f := 39) rfl ?_); refine goesL_ (some 12) rfl rfl Try.func39 (by kernel_rfl) rfl #[.slice A0 l0.length c0] rfl (by (try simp only [List.map_toArray, List.map_cons, List.map_nil]); first | done | rfl | (simp only [List.length_drop, List.length_take]; rfl)) ?_; (with_reducible refine (valid_Check.calls _ _ l0 t114 t115 t116 _ ?side1 ?side2 A4.out).mono ?_); (case side1 => repeat (first | exact (Kd.C_below HR0.out HB.out) | (with_reducible refine Kd.C_alloc ?_ _) | (with_reducible refine Kd.C_drewN ?_ _) | (with_reducible refine Kd.C_drew ?_))); (case side2 => exact HC0.out); rintro e w27 ⟨rfl, hb⟩; refine ⟨_, rfl, ?_⟩; have n0_ := Aside0.mk (blk_below (g := gb113) (o := .cells #[.int .i64 a2_0, .int .i64 a2_1] 43 (0, 0)) (by (with_reducible repeat (first | refine blk_drewN ?_ _ | refine blk_drew ?_ | refine blk_alloc ?_ _)); exact BK113.out) hb); have n1_ := Aside0.mk (below_step (by repeat (first | (with_reducible first | exact HB.out | apply below_alloc | apply pw_below_drewN | apply below_drew1 | refine below_set ?_ GE113.out) | exact HB.out)) hb); clear BK113; clear HB; have BK113 := n0_; have HB := n1_; clear n0_ n1_; (try clear hb); (try clear hb2); (try clear hk); (try clear hi)))
    go_ret
    exact ⟨by first | rfl | (simp [errW_none, errW_some] <;> rfl) | (simp [*, errW_none, errW_some] <;> rfl), by repeat (first | (with_reducible first | exact HB.out | apply below_alloc | apply pw_below_drewN | apply below_drew1 | refine below_set ?_ GE113.out) | exact HB.out)⟩

end Go.Proofs.Ytcciejcpijlkfaa.H

-- made by this session's gen.py over the kit's print.py; not trusted: Lean checks it
namespace Go.Proofs.Ytcciejcpijlkfaa.H
open Go.RowKit Go.Proofs.YtcciejcpijlkfaaW.PrintWords Go.Proofs.YtcciejcpijlkfaaW.PrintLast Go.Proofs.YtcciejcpijlkfaaW.PrintMore
attribute [local go_sem] max2_int min2_int max_two min_two max_three min_three max_four min_four   -- for this text's walks alone
set_option linter.unusedVariables false
set_option linter.unusedSimpArgs false

/-! ### frame_right: function 25 -/
def frame_right.f (l0 : List (S68)) (a1_0 : Int) (a1_1 : Int) : Option (Bool) := (valid_Check.f l0).bind fun bt119 => (if bt119.2.2 = 0 then (if 0 < (l0.length : Int) then (if 0 ≤ ((rd_T68 l0 0).f0) then (if ((rd_T68 l0 0).f0 : Int).toNat ≤ 35184372088832 then ((eval_Right.f l0 (List.replicate ((rd_T68 l0 0).f0 : Int).toNat 0) a1_0 a1_1).bind fun t126 => (some t126)) else (none)) else (none)) else (none)) else (some false))
def frame_right.T4 : Bool × List (List Nat × List Nat) := (true, [([], []), ([], []), ([1], [1]), ([2], [2]), ([3], [3]), ([4, 4], [4]), ([], []), ([0, 5, 6], [0, 5, 6]), ([7, 7, 0, 1, 2, 3, 4, 5, 6, 7], [7])])
def frame_right.B4 : List Nat := [0, 0, 2, 6, 14, 30, 0, 127, 255]
theorem frame_right.tab4 : rtab .any (opsOf Try.f25 4) = frame_right.T4 := by kernel_rfl
theorem frame_right.bits4 : waitsOk frame_right.T4.2 frame_right.B4 = true := by kernel_rfl
set_option maxHeartbeats 8000000 in
set_option maxRecDepth 100000 in
theorem frame_right.calls (A0 : Option Addr) (c0 : Nat) (l0 : List (S68)) (a1_0 : Int) (a1_1 : Int) (r : Bool) (w : World) (hr0 : Kd.C k68 w A0 l0.length l0) (hc0 : l0.length ≤ c0) (h : frame_right.f l0 a1_0 a1_1 = some r) :
    Calls Try.prog 25 #[.slice A0 l0.length c0, .agg #[.int .i64 a1_0, .int .i64 a1_1]] w fun e w' => e = .returned (.bool r) ∧ Below w.heap.size w w' := by
  have hu43 := Try.underlying43
  have HR0 := Aside0.mk hr0
  have HC0 := Aside0.mk hc0
  clear hr0 hc0
  have HB := Aside0.mk (Below.refl w.heap.size w)
  have H : ((valid_Check.f l0).bind fun bt119 => (if bt119.2.2 = 0 then (if 0 < (l0.length : Int) then (if 0 ≤ ((rd_T68 l0 0).f0) then (if ((rd_T68 l0 0).f0 : Int).toNat ≤ 35184372088832 then ((eval_Right.f l0 (List.replicate ((rd_T68 l0 0).f0 : Int).toNat 0) a1_0 a1_1).bind fun t126 => (some t126)) else (none)) else (none)) else (none)) else (some false))) = some r := h
  clear h
  replace H := Option.bind_eq_some_iff.mp H
  obtain ⟨⟨t119, t120, t121⟩, A30, H⟩ := H
  replace H : (if t121 = 0 then (if 0 < (l0.length : Int) then (if 0 ≤ ((rd_T68 l0 0).f0) then (if ((rd_T68 l0 0).f0 : Int).toNat ≤ 35184372088832 then ((eval_Right.f l0 (List.replicate ((rd_T68 l0 0).f0 : Int).toNat 0) a1_0 a1_1).bind fun t126 => (some t126)) else (none)) else (none)) else (none)) else (some false)) = some r := H
  have A3 := Aside0.mk A30
  clear A30
  by_cases c4 : t121 = 0
  · rw [if_pos c4] at H
    have c4b0 : (t121 == 0) = true := beq_iff_eq.mpr c4
    have c4b1 : (t121 != 0) = false := bne_eq_false_iff_eq.mpr c4
    clear c4
    by_cases c5 : 0 < (l0.length : Int)
    · rw [if_pos c5] at H
      have c5b0 : decide (0 < (l0.length : Int)) = true := decide_eq_true c5
      have c5b1 : decide (0 < l0.length) = true := decide_eq_true (by omega)
      clear c5
      by_cases c6 : 0 ≤ ((rd_T68 l0 0).f0)
      · rw [if_pos c6] at H
        have c6b0 := eq_true c6
        have c6b1 : decide (0 ≤ ((rd_T68 l0 0).f0)) = true := decide_eq_true c6
        clear c6
        by_cases c7 : ((rd_T68 l0 0).f0 : Int).toNat ≤ 35184372088832
        · rw [if_pos c7] at H
          have c7b0 := eq_true c7
          have c7b1 : decide (((rd_T68 l0 0).f0 : Int).toNat ≤ 35184372088832) = true := decide_eq_true c7
          clear c7
          obtain ⟨y123, hy123⟩ : ∃ y_ : List Int, y_ = (List.replicate ((rd_T68 l0 0).f0 : Int).toNat 0) := ⟨_, rfl⟩
          replace H : ((eval_Right.f l0 y123 a1_0 a1_1).bind fun t126 => (some t126)) = some r := by first | (rw [hy123]; with_reducible exact H) | (have H2_ := (Option.bind_some _ _).symm.trans H; rw [hy123]; with_reducible exact H2_) | (have H2_ := (Option.bind_some _ _).symm.trans H; with_reducible exact H2_) | with_reducible exact H | (rw [hy123]; exact H) | exact H
          have Ny123 := Aside0.mk hy123
          clear hy123
          replace H := Option.bind_eq_some_iff.mp H
          obtain ⟨t126, A80, H⟩ := H
          replace H : (some t126) = some r := H
          have A8 := Aside0.mk A80
          clear A80
          obtain rfl := Option.some.inj H
          go_enter Try.func25, Try.ntmps25
          try go_wp2_with (first | ((with_reducible refine gate_dst (N := 3) rfl ?_); refine box_event ?hg (N := 3) ?hd (cs := #[.int .i64 a1_0, .int .i64 a1_1]) (t := 43) ?hr ?_; (case hd => rfl); (case hg => rfl); (case hr => first | (go_simp; done) | (go_simp; rfl)); intro gb118 hg w9 hbox hb; have n0_ := Aside0.mk (below_step (by repeat (first | (with_reducible first | exact HB.out | apply below_alloc | apply pw_below_drewN | apply below_drew1) | exact HB.out)) hb); have n1_ := Aside0.mk (hbox); have n2_ := Aside0.mk ((by rw [hg]; exact (below_size (by repeat (first | (with_reducible first | exact HB.out | apply below_alloc | apply pw_below_drewN | apply below_drew1) | exact HB.out))) : w.heap.size ≤ gb118)); have n3_ := Aside0.mk ((by rw [hg]; exact (below_size (by repeat (first | (with_reducible first | exact HB.out | apply below_alloc | apply pw_below_drewN | apply below_drew1) | exact HB.out))) : w.heap.size ≤ gb118)); clear HB; have HB := n0_; have BK118 := n1_; have GW118 := n2_; have GE118 := n3_; clear n0_ n1_ n2_ n3_; clear hb hbox hg) | ((with_reducible refine gate_callee (f := 39) rfl ?_); refine goesL_ (some 10) rfl rfl Try.func39 (by kernel_rfl) rfl #[.slice A0 l0.length c0] rfl (by (try simp only [List.map_toArray, List.map_cons, List.map_nil]); first | done | rfl | (simp only [List.length_drop, List.length_take]; rfl)) ?_; (with_reducible refine (valid_Check.calls _ _ l0 t119 t120 t121 _ ?side1 ?side2 A3.out).mono ?_); (case side1 => repeat (first | exact (Kd.C_below HR0.out HB.out) | (with_reducible refine Kd.C_alloc ?_ _) | (with_reducible refine Kd.C_drewN ?_ _) | (with_reducible refine Kd.C_drew ?_))); (case side2 => exact HC0.out); rintro e w10 ⟨rfl, hb⟩; refine ⟨_, rfl, ?_⟩; have n0_ := Aside0.mk (blk_below (g := gb118) (o := .cells #[.int .i64 a1_0, .int .i64 a1_1] 43 (0, 0)) (by (with_reducible repeat (first | refine blk_drewN ?_ _ | refine blk_drew ?_ | refine blk_alloc ?_ _)); exact BK118.out) hb); have n1_ := Aside0.mk (below_step (by repeat (first | (with_reducible first | exact HB.out | apply below_alloc | apply pw_below_drewN | apply below_drew1 | refine below_set ?_ GE118.out) | exact HB.out)) hb); clear BK118; clear HB; have BK118 := n0_; have HB := n1_; clear n0_ n1_; (try clear hb); (try clear hb2); (try clear hk); (try clear hi)))
          have n0_ := Aside0.mk (blk_drew BK118.out)
          have n1_ := Aside0.mk (below_drew1 HB.out)
          clear BK118
          clear HB
          have BK118 := n0_
          have HB := n1_
          clear n0_ n1_
          have p122 : 0 ≤ (0 : Int) := (by omega)
          have q122 : 0 < (l0.length : Int) := of_decide_eq_true (by first | (with_reducible assumption) | assumption)
          obtain ⟨ad122, A122_1, c122_1, e122, hx122_0, hx122_1, hl122_1, hi122_1⟩ := at_T68 HR0.out 0 p122 q122
          have hw122_1 := hx122_1
          (try rw [show ((0 : Int)).toNat = 0 from rfl] at hw122_1)
          (try rw [show 0 * 2 = 0 from rfl] at hw122_1)
          (try rw [Addr.add_zero'] at hw122_1)
          have hw122_0 := hx122_0
          (try rw [show ((0 : Int)).toNat = 0 from rfl] at hw122_0)
          (try rw [show 0 * 2 = 0 from rfl] at hw122_0)
          (try rw [Addr.add_zero'] at hw122_0)
          cases e122
          have qi122 : (0 < l0.length) = True := eq_true (by omega)
          (try rw [show ((0 : Int)).toNat = 0 from rfl] at hx122_0)
          (try rw [show 0 * 2 = 0 from rfl] at hx122_0)
          (try rw [Addr.add_zero'] at hx122_0)
          (try rw [show ((0 : Int)).toNat = 0 from rfl] at hx122_1)
          (try rw [show 0 * 2 = 0 from rfl] at hx122_1)
          (try rw [Addr.add_zero'] at hx122_1)
          replace hx122_0 := (HB.out.cell (World.block_lt_of_cell? w _ hx122_0)).trans hx122_0
          replace hx122_1 := (HB.out.cell (World.block_lt_of_cell? w _ hx122_1)).trans hx122_1
          have HR122_1 := Aside0.mk hi122_1
          have HC122_1 := Aside0.mk hl122_1
          clear hi122_1 hl122_1
          replace p122 := eq_true p122
          replace q122 := eq_true q122
          refine start_ (n := 9) (S := fun w' => w'.cell? ⟨gb118, 0, none⟩ = some (.int .i64 a1_0) ∧ w'.cell? ⟨gb118, 1, none⟩ = some (.int .i64 a1_1) ∧ w'.cell? ad122 = some (.int .i64 ((rd_T68 l0 0).f0)) ∧ w'.cell? ⟨ad122.block, ad122.off + 1, none⟩ = some (.slice A122_1 ((rd_T68 l0 0).f1).length c122_1)) (ds := []) #[false, false, false, false, false, false, false, false, false] (by kernel_rfl) rfl rfl ⟨(blk_cell BK118.out 0).trans rfl, (blk_cell BK118.out 1).trans rfl, ((HB.out.cell (World.block_lt_of_cell? w _ hw122_0)).trans hw122_0), ((HB.out.cell (World.block_lt_of_cell? w _ hw122_1)).trans hw122_1)⟩ (fun hHeld => ?_); refine with_tabW frame_right.tab4 frame_right.bits4 (fun HT_ HW_ => ?_)
          generalize w10.drew = w11 at BK118 HB HR122_1 hx122_0 hx122_1 hHeld ⊢
          refine pure_ (i := 0) (N := some 16) (v := ?_) (a' := ?_) #[true, false, false, false, false, false, false, false, false] rfl rfl (any_of HT_.out (by kernel_rfl)) (fun _ _ _ h => h) (Or.inl ⟨by rfl, ?_⟩) ?_ ?_
          rotate_left
          · intro w'
            go_simp
            with_reducible rfl
          rotate_left
          · simp only [Act.put, List.setIfInBounds_toArray, List.set_cons_zero, List.set_cons_succ, i64_w, i32_w]
            rfl
          refine pure_ (i := 1) (N := some 17) (v := ?_) (a' := ?_) #[true, true, false, false, false, false, false, false, false] rfl rfl (any_of HT_.out (by kernel_rfl)) (fun _ _ _ h => h) (Or.inl ⟨by rfl, ?_⟩) ?_ ?_
          rotate_left
          · intro w'
            go_simp
            with_reducible rfl
          rotate_left
          · simp only [Act.put, List.setIfInBounds_toArray, List.set_cons_zero, List.set_cons_succ, i64_w, i32_w]
            rfl
          refine pure_ (i := 2) (N := some 18) (v := ?_) (a' := ?_) #[true, true, true, false, false, false, false, false, false] rfl rfl (any_of HT_.out (by kernel_rfl)) (fun _ _ _ h => h) (Or.inl ⟨by rfl, ?_⟩) ?_ ?_
          rotate_left
          · intro w'
            go_simp
            with_reducible rfl
          rotate_left
          · simp only [Act.put, List.setIfInBounds_toArray, List.set_cons_zero, List.set_cons_succ, i64_w, i32_w]
            rfl
          refine pure_ (i := 3) (N := some 19) (v := ?_) (a' := ?_) #[true, true, true, true, false, false, false, false, false] rfl rfl (any_of HT_.out (by kernel_rfl)) (fun _ _ _ h => h) (Or.inl ⟨by rfl, ?_⟩) ?_ ?_
          rotate_left
          · intro w'
            go_simp
            with_reducible rfl
          rotate_left
          · simp only [Act.put, List.setIfInBounds_toArray, List.set_cons_zero, List.set_cons_succ, i64_w, i32_w]
            rfl
          refine take_ (i := 4) (N := some 20) (v := ?_) (a' := ?_) #[true, true, true, true, true, false, false, false, false] rfl rfl (take_ofW HT_.out HW_.out (by kernel_rfl)) (fun _ _ _ h => h) (Or.inl ⟨by rfl, ?_⟩) hHeld ?_ ?_
          rotate_left
          · rintro w' ⟨s0, s1, s2, s3⟩
            go_simp
            with_reducible rfl
          rotate_left
          · simp only [Act.put, List.setIfInBounds_toArray, List.set_cons_zero, List.set_cons_succ, i64_w, i32_w]
            rfl
          refine take_ (i := 6) (N := some 22) (v := ?_) (a' := ?_) #[true, true, true, true, true, false, true, false, false] rfl rfl (take_ofW HT_.out HW_.out (by kernel_rfl)) (fun _ _ _ h => h) (Or.inl ⟨by rfl, ?_⟩) hHeld ?_ ?_
          rotate_left
          · rintro w' ⟨s0, s1, s2, s3⟩
            go_simp
            with_reducible rfl
          rotate_left
          · simp only [Act.put, List.setIfInBounds_toArray, List.set_cons_zero, List.set_cons_succ, i64_w, i32_w]
            rfl
          refine one_ (i := 5) (N := some 21) #[true, true, true, true, true, true, true, false, false] rfl rfl (one_of HT_.out (by kernel_rfl)) (by decide) (fun K hK => ?_)
          refine Kd.R_make_step (Kd.int .i64) _ 2 (by rfl) (N := 21) rfl 34 _ _ rfl ((rd_T68 l0 0).f0) rfl rfl Try.underlying34 (.int .i64 0) 8 info2 rfl (by decide) (by omega) 0 (ok := fun _ => True) (okp := fun _ => True) rfl (fun _ hk => hk) trivial (of_decide_eq_true (by first | (with_reducible assumption) | assumption)) (Nat.le_trans (Nat.mul_le_mul_right _ (of_decide_eq_true (by first | (with_reducible assumption) | assumption) : ((rd_T68 l0 0).f0).toNat ≤ 35184372088832)) (by omega)) (Below.refl _ _) (Nat.le_refl _) ?_
          intro v124 w12 ho13 hb hg_ hnew_
          clear hg_ hnew_
          (first | rw [← Ny123.out] at ho13 | (simp only [Int.reduceToNat] at ho13; rw [← Ny123.out] at ho13))
          have n0_ := Aside0.mk (Kd.R_lower ho13 (below_size (by repeat (first | (with_reducible first | exact HB.out | apply below_alloc | apply pw_below_drewN | apply below_drew1 | refine below_set ?_ GE118.out) | exact HB.out))))
          have n1_ := Aside0.mk (blk_below (g := gb118) (o := .cells #[.int .i64 a1_0, .int .i64 a1_1] 43 (0, 0)) (by (with_reducible repeat (first | refine blk_drewN ?_ _ | refine blk_drew ?_ | refine blk_alloc ?_ _)); exact BK118.out) hb)
          have n2_ := Aside0.mk (below_step (by repeat (first | (with_reducible first | exact HB.out | apply below_alloc | apply pw_below_drewN | apply below_drew1 | refine below_set ?_ GE118.out) | exact HB.out)) hb)
          clear BK118
          clear HB
          have HO125 := n0_
          have BK118 := n1_
          have HB := n2_
          clear n0_ n1_ n2_
          clear hb ho13
          obtain ⟨Ao14, co14, eo14⟩ := Kd.R_slice HO125.out
          (first | subst eo14 | (injection eo14 with f1_ f2_ f3_; have f4_ := f1_.symm; have f5_ := f3_.symm; clear f1_ f2_ f3_; subst f4_; subst f5_))
          refine hK.out _ _ ⟨(blk_cell BK118.out 0).trans rfl, (blk_cell BK118.out 1).trans rfl, ((HB.out.cell (World.block_lt_of_cell? w _ hw122_0)).trans hw122_0), ((HB.out.cell (World.block_lt_of_cell? w _ hw122_1)).trans hw122_1)⟩ (fun hHeld => ?_)
          clear hK K
          refine norm_ (a' := ?_) ?_ ?_
          rotate_left
          · show Act.put _ (some 21) _ = _
            simp only [Act.put, List.setIfInBounds_toArray, List.set_cons_zero, List.set_cons_succ, i64_w, i32_w]
            rfl
          refine one_ (i := 7) (N := some 23) #[true, true, true, true, true, true, true, true, false] rfl rfl (one_of HT_.out (by kernel_rfl)) (by decide) (fun K hK => ?_)
          refine goes_ Try.func33 (by kernel_rfl) rfl #[.slice (some ad122) l0.length c0, .slice Ao14 y123.length co14, .agg #[.int .i64 a1_0, .int .i64 a1_1]] (by rfl) rfl rfl (by (try simp only [List.map_toArray, List.map_cons, List.map_nil]); first | done | rfl | (simp only [List.length_drop, List.length_take]; rfl)) ?_
          with_reducible refine (eval_Right.calls _ _ l0 _ _ y123 a1_0 a1_1 t126 _ ?side1 ?side2 ?side3 ?side4 A8.out).mono ?_
          (case side1 => repeat (first | exact (Kd.C_below HR0.out HB.out) | (with_reducible refine Kd.C_alloc ?_ _) | (with_reducible refine Kd.C_drewN ?_ _) | (with_reducible refine Kd.C_drew ?_)))
          (case side2 => exact HC0.out)
          (case side3 => repeat (first | exact (Kd.R_reads' HO125.out).2.2 | (with_reducible refine Kd.C_alloc ?_ _) | (with_reducible refine Kd.C_drewN ?_ _) | (with_reducible refine Kd.C_drew ?_)))
          (case side4 => exact (Kd.R_reads' HO125.out).2.1)
          rintro e w15 ⟨rfl, hb⟩
          refine ⟨_, rfl, ?_⟩
          have n0_ := Aside0.mk (Kd.R_below (by (with_reducible repeat (first | apply Kd.R_alloc | apply Kd.R_drewN | apply Kd.R_drew)); exact HO125.out) hb)
          have n1_ := Aside0.mk (blk_below (g := gb118) (o := .cells #[.int .i64 a1_0, .int .i64 a1_1] 43 (0, 0)) (by (with_reducible repeat (first | refine blk_drewN ?_ _ | refine blk_drew ?_ | refine blk_alloc ?_ _)); exact BK118.out) hb)
          have n2_ := Aside0.mk (below_step (by repeat (first | (with_reducible first | exact HB.out | apply below_alloc | apply pw_below_drewN | apply below_drew1 | refine below_set ?_ GE118.out) | exact HB.out)) hb)
          clear HO125
          clear BK118
          clear HB
          have HO125 := n0_
          have BK118 := n1_
          have HB := n2_
          clear n0_ n1_ n2_
          (try clear hb)
          (try clear hb2)
          (try clear hk)
          (try clear hi)
          refine hK.out _ _ ⟨(blk_cell BK118.out 0).trans rfl, (blk_cell BK118.out 1).trans rfl, ((HB.out.cell (World.block_lt_of_cell? w _ hw122_0)).trans hw122_0), ((HB.out.cell (World.block_lt_of_cell? w _ hw122_1)).trans hw122_1)⟩ (fun hHeld => ?_)
          clear hK K
          refine norm_ (a' := ?_) ?_ ?_
          rotate_left
          · show Act.put _ (some 23) _ = _
            simp only [Act.put, List.setIfInBounds_toArray, List.set_cons_zero, List.set_cons_succ, i64_w, i32_w]
            rfl
          refine pure_ (i := 8) (N := some 4) (v := ?_) (a' := ?_) #[true, true, true, true, true, true, true, true, true] rfl rfl (any_of HT_.out (by kernel_rfl)) (fun _ _ _ h => h) (Or.inl ⟨by rfl, ?_⟩) ?_ ?_
          rotate_left
          · intro w'
            go_simp
            with_reducible rfl
          rotate_left
          · simp only [Act.put, List.setIfInBounds_toArray, List.set_cons_zero, List.set_cons_succ, i64_w, i32_w]
            rfl
          refine done_ (done_of HT_.out (by kernel_rfl)) ?_
          try go_wp2
          go_ret
          exact ⟨by first | rfl | (simp [errW_none, errW_some] <;> rfl) | (simp [*, errW_none, errW_some] <;> rfl), by repeat (first | (with_reducible first | exact HB.out | apply below_alloc | apply pw_below_drewN | apply below_drew1 | refine below_set ?_ GE118.out) | exact HB.out)⟩
        · rw [if_neg c7] at H
          exact absurd H (by simp)
      · rw [if_neg c6] at H
        exact absurd H (by simp)
    · rw [if_neg c5] at H
      exact absurd H (by simp)
  · rw [if_neg c4] at H
    have c4b0 : (t121 == 0) = false := beq_eq_false_iff_ne.mpr c4
    have c4b1 : (t121 != 0) = true := bne_iff_ne.mpr c4
    obtain rfl := Option.some.inj H
    go_enter Try.func25, Try.ntmps25
    go_wp2_with (first | ((with_reducible refine gate_dst (N := 3) rfl ?_); refine box_event ?hg (N := 3) ?hd (cs := #[.int .i64 a1_0, .int .i64 a1_1]) (t := 43) ?hr ?_; (case hd => rfl); (case hg => rfl); (case hr => first | (go_simp; done) | (go_simp; rfl)); intro gb118 hg w16 hbox hb; have n0_ := Aside0.mk (below_step (by repeat (first | (with_reducible first | exact HB.out | apply below_alloc | apply pw_below_drewN | apply below_drew1) | exact HB.out)) hb); have n1_ := Aside0.mk (hbox); have n2_ := Aside0.mk ((by rw [hg]; exact (below_size (by repeat (first | (with_reducible first | exact HB.out | apply below_alloc | apply pw_below_drewN | apply below_drew1) | exact HB.out))) : w.heap.size ≤ gb118)); have n3_ := Aside0.mk ((by rw [hg]; exact (below_size (by repeat (first | (with_reducible first | exact HB.out | apply below_alloc | apply pw_below_drewN | apply below_drew1) | exact HB.out))) : w.heap.size ≤ gb118)); clear HB; have HB := n0_; have BK118 := n1_; have GW118 := n2_; have GE118 := n3_; clear n0_ n1_ n2_ n3_; clear hb hbox hg) | ((with_reducible refine gate_callee (f := 39) rfl ?_); refine goesL_ (some 10) rfl rfl Try.func39 (by kernel_rfl) rfl #[.slice A0 l0.length c0] rfl (by (try simp only [List.map_toArray, List.map_cons, List.map_nil]); first | done | rfl | (simp only [List.length_drop, List.length_take]; rfl)) ?_; (with_reducible refine (valid_Check.calls _ _ l0 t119 t120 t121 _ ?side1 ?side2 A3.out).mono ?_); (case side1 => repeat (first | exact (Kd.C_below HR0.out HB.out) | (with_reducible refine Kd.C_alloc ?_ _) | (with_reducible refine Kd.C_drewN ?_ _) | (with_reducible refine Kd.C_drew ?_))); (case side2 => exact HC0.out); rintro e w17 ⟨rfl, hb⟩; refine ⟨_, rfl, ?_⟩; have n0_ := Aside0.mk (blk_below (g := gb118) (o := .cells #[.int .i64 a1_0, .int .i64 a1_1] 43 (0, 0)) (by (with_reducible repeat (first | refine blk_drewN ?_ _ | refine blk_drew ?_ | refine blk_alloc ?_ _)); exact BK118.out) hb); have n1_ := Aside0.mk (below_step (by repeat (first | (with_reducible first | exact HB.out | apply below_alloc | apply pw_below_drewN | apply below_drew1 | refine below_set ?_ GE118.out) | exact HB.out)) hb); clear BK118; clear HB; have BK118 := n0_; have HB := n1_; clear n0_ n1_; (try clear hb); (try clear hb2); (try clear hk); (try clear hi)))
    go_ret
    exact ⟨by first | rfl | (simp [errW_none, errW_some] <;> rfl) | (simp [*, errW_none, errW_some] <;> rfl), by repeat (first | (with_reducible first | exact HB.out | apply below_alloc | apply pw_below_drewN | apply below_drew1 | refine below_set ?_ GE118.out) | exact HB.out)⟩

end Go.Proofs.Ytcciejcpijlkfaa.H

set_option linter.unusedVariables false
set_option linter.unusedSimpArgs false
namespace Go.Proofs.Ytcciejcpijlkfaa.H
open Go.RowKit Go.Hay Go.Proofs.YtcciejcpijlkfaaW.PrintWords Go.Proofs.YtcciejcpijlkfaaW.PrintLast Go.Proofs.YtcciejcpijlkfaaW.PrintMore
/-- may a program run? -/
def evRight (l : List S68) (n : Nat) (b d : Int) : Bool :=
  if (checkP l).2.2 = 0 then (if b < 1 then false else if b > 10000 then false else if d < 0 then false else if d > 30 then false else ((n : Int) == (rd_T68 l 0).f0)) else false
theorem evRight_f (l : List S68) (args : List Int) (b d : Int) : eval_Right.f l args b d = some (evRight l args.length b d) := by
  unfold eval_Right.f evRight valid_Check.f
  simp only [Option.bind_some]
  by_cases h : (checkP l).2.2 = 0
  · have hl := (check_ok h).len
    rw [if_pos h, if_pos h]
    repeat' split
    all_goals first | rfl | (exfalso; omega)
  · rw [if_neg h, if_neg h]
end Go.Proofs.Ytcciejcpijlkfaa.H

set_option linter.unusedVariables false
set_option linter.unusedSimpArgs false
namespace Go.Proofs.Ytcciejcpijlkfaa.H
open Go.RowKit Go.Hay Go.Proofs.YtcciejcpijlkfaaW.PrintWords Go.Proofs.YtcciejcpijlkfaaW.PrintLast Go.Proofs.YtcciejcpijlkfaaW.PrintMore
section
variable {A : Option Addr} {c : Nat} {b d : Int} {fb : Nat} {F : Fr} {w : World} {Ap : Option Addr} {cp : Nat}
theorem do_any {l : List S68} (hl : POk l) (hC : k68.C w A l.length l) (hP : (Kd.int .i64).C w Ap F.path.length F.path) (hpc : F.path.length ≤ cp) (hpn : Ap = none → cp = 0) (h : FB fb F (.slice Ap F.path.length cp) w) (x : S65) {lc : Nat} (hx : IOk l lc x) (hd30 : d ≤ 30) :
    Calls Try.prog (fdeedF x.f0) #[dV A l.length c b d fb, xvF x] w (DoP fb (.slice Ap F.path.length cp) (doF l d x F) w) := by
  have hop := hx.op
  have hcases : x.f0 = 1 ∨ x.f0 = 2 ∨ x.f0 = 3 ∨ x.f0 = 4 ∨ x.f0 = 5 ∨ x.f0 = 6 ∨ x.f0 = 7 ∨ x.f0 = 8 ∨ x.f0 = 9 ∨ x.f0 = 10 ∨ x.f0 = 11 ∨ x.f0 = 12 ∨ x.f0 = 13 ∨ x.f0 = 14 ∨ x.f0 = 15 ∨ x.f0 = 16 ∨ x.f0 = 17 := by omega
  unfold doF
  rcases hcases with e | e | e | e | e | e | e | e | e | e | e | e | e | e | e | e | e
  · rw [e, fdeedF_1, if_pos rfl]
    exact dset_any h x (hx.a (by omega) (by omega) (by omega) (by omega))
  · rw [e, fdeedF_2, if_neg (by decide), if_pos rfl]
    exact dmove_any h x (hx.a (by omega) (by omega) (by omega) (by omega)) (hx.b (.inl (by omega)))
  · rw [e, fdeedF_3, if_neg (by decide), if_neg (by decide), if_pos (by decide)]
    exact dreckon_add h x e (hx.a (by omega) (by omega) (by omega) (by omega)) (hx.b (.inl (by omega))) (hx.c (by omega))
  · rw [e, fdeedF_4, if_neg (by decide), if_neg (by decide), if_pos (by decide)]
    exact dreckon_sub h x e (hx.a (by omega) (by omega) (by omega) (by omega)) (hx.b (.inl (by omega))) (hx.c (by omega))
  · rw [e, fdeedF_5, if_neg (by decide), if_neg (by decide), if_pos (by decide)]
    exact dreckon_mul h x e (hx.a (by omega) (by omega) (by omega) (by omega)) (hx.b (.inl (by omega))) (hx.c (by omega))
  · rw [e, fdeedF_6, if_neg (by decide), if_neg (by decide), if_pos (by decide)]
    by_cases hz : fR F x.f3 = 0
    · have hr : reckonP 6 (fR F x.f2) (fR F x.f3) = none := by simp [reckonP, hz]
      rw [hr]
      exact dreckon_no h x e (hx.a (by omega) (by omega) (by omega) (by omega)) (hx.b (.inl (by omega))) (hx.c (by omega)) hz
    · have hr : reckonP 6 (fR F x.f2) (fR F x.f3) = some (wrap64 ((fR F x.f2).tdiv (fR F x.f3))) := by simp [reckonP, hz]
      rw [hr]
      exact dreckon_div h x e (hx.a (by omega) (by omega) (by omega) (by omega)) (hx.b (.inl (by omega))) (hx.c (by omega)) hz
  · rw [e, fdeedF_7, if_neg (by decide), if_neg (by decide), if_pos (by decide)]
    exact dreckon_less h x e (hx.a (by omega) (by omega) (by omega) (by omega)) (hx.b (.inl (by omega))) (hx.c (by omega))
  · rw [e, fdeedF_8, if_neg (by decide), if_neg (by decide), if_pos (by decide)]
    exact dreckon_same h x e (hx.a (by omega) (by omega) (by omega) (by omega)) (hx.b (.inl (by omega))) (hx.c (by omega))
  · rw [e, fdeedF_9, if_neg (by decide), if_neg (by decide), if_neg (by decide), if_pos rfl]
    exact djump_any h x
  · rw [e, fdeedF_10, if_neg (by decide), if_neg (by decide), if_neg (by decide), if_neg (by decide), if_pos rfl]
    exact dzero_any h x (hx.a (by omega) (by omega) (by omega) (by omega))
  · rw [e, fdeedF_11, if_neg (by decide), if_neg (by decide), if_neg (by decide), if_neg (by decide), if_neg (by decide), if_pos rfl]
    exact dspawn_any hl hC hP hpc hpn h x hd30 (hx.b (.inr (.inl e))) (hx.cf (.inl e))
  · rw [e, fdeedF_12, if_neg (by decide), if_neg (by decide), if_neg (by decide), if_neg (by decide), if_neg (by decide), if_neg (by decide), if_pos rfl]
    exact dsync_any h x
  · rw [e, fdeedF_13, if_neg (by decide), if_neg (by decide), if_neg (by decide), if_neg (by decide), if_neg (by decide), if_neg (by decide), if_neg (by decide), if_pos rfl]
    exact dfuture_any hl hC hP hpc hpn h x hd30 (hx.b (.inr (.inr e))) (hx.cf (.inr e))
  · rw [e, fdeedF_14, if_neg (by decide), if_neg (by decide), if_neg (by decide), if_neg (by decide), if_neg (by decide), if_neg (by decide), if_neg (by decide), if_neg (by decide), if_pos rfl]
    by_cases hz : fH F x.f2 = 0
    · rw [if_pos hz]; exact dtouch_no h x (hx.b14 e) hz
    · rw [if_neg hz]; exact dtouch_yes h x (hx.b14 e) hz
  · rw [e, fdeedF_15, if_neg (by decide), if_neg (by decide), if_neg (by decide), if_neg (by decide), if_neg (by decide), if_neg (by decide), if_neg (by decide), if_neg (by decide), if_neg (by decide), if_pos rfl]
    exact demit_any h x (hx.a (by omega) (by omega) (by omega) (by omega))
  · rw [e, fdeedF_16, if_neg (by decide), if_neg (by decide), if_neg (by decide), if_neg (by decide), if_neg (by decide), if_neg (by decide), if_neg (by decide), if_neg (by decide), if_neg (by decide), if_neg (by decide), if_pos rfl]
    exact dfail_any h x
  · rw [e, fdeedF_17, if_neg (by decide), if_neg (by decide), if_neg (by decide), if_neg (by decide), if_neg (by decide), if_neg (by decide), if_neg (by decide), if_neg (by decide), if_neg (by decide), if_neg (by decide), if_neg (by decide)]
    exact dret_any h x
end
/-- may a program run with such limits? -/
theorem fright_f (l : List S68) (b d : Int) : frame_right.f l b d = some (frRight l b d) := by
  unfold frame_right.f valid_Check.f frRight
  simp only [Option.bind_some]
  by_cases h : (checkP l).2.2 = 0
  · have hp := check_ok h
    have hl := hp.len
    have h0 := (hp.fn 0 (by omega)).1
    have e : rd_T68 l 0 = l[0] := by simp [rd_T68, show 0 < l.length by omega]
    rw [if_pos h, if_pos (by omega), if_pos (by rw [e]; omega), if_pos (by rw [e]; omega), evRight_f]
    simp only [Option.bind_some]
    congr 1
    unfold evRight
    rw [if_pos h, List.length_replicate]
    by_cases h1 : b < 1
    · rw [if_pos h1, decide_eq_false (by omega)]
    rw [if_neg h1]
    by_cases h2 : b > 10000
    · rw [if_pos h2, decide_eq_false (by omega)]
    rw [if_neg h2]
    by_cases h3 : d < 0
    · rw [if_pos h3, decide_eq_false (by omega)]
    rw [if_neg h3]
    by_cases h4 : d > 30
    · rw [if_pos h4, decide_eq_false (by omega)]
    rw [if_neg h4, decide_eq_true (by omega), e]
    have : ((l[0].f0.toNat : Nat) : Int) = l[0].f0 := by omega
    rw [this]
    simp
  · rw [if_neg h, decide_eq_false (by omega)]
end Go.Proofs.Ytcciejcpijlkfaa.H

set_option linter.unusedVariables false
set_option linter.unusedSimpArgs false
namespace Go.Proofs.Ytcciejcpijlkfaa.H
open Go.RowKit Go.Hay Go.Proofs.YtcciejcpijlkfaaW.PrintWords Go.Proofs.YtcciejcpijlkfaaW.PrintLast Go.Proofs.YtcciejcpijlkfaaW.PrintMore
set_option maxRecDepth 100000 in
theorem pne_some (a : Addr) (w : World) : (binOp .neq 31 (.pointer (some a)) (.pointer none)).run Try.prog w = .ok (.bool true) w := rfl
set_option maxRecDepth 100000 in
set_option maxHeartbeats 8000000 in
theorem there_any {A : Option Addr} {c : Nat} {l : List S68} {fb : Nat} {F : Fr} {vp : Value} {w : World} (hC : k68.C w A l.length l) (h : FB fb F vp w) : Calls Try.prog 26 #[.slice A l.length c, .pointer (some ⟨fb, 0, none⟩)] w fun e w' => e = .returned (.bool (thereP l F)) ∧ Below w.heap.size w w' := by
  have h1 := pne_some
  have t0 := h.fix.1
  have t1 := h.fix.2.1
  have HC := Aside0.mk hC
  clear hC h
  unfold thereP
  by_cases c1 : 0 ≤ F.fn
  · by_cases c2 : F.fn < l.length
    · obtain ⟨f, hf⟩ : ∃ f : Nat, F.fn = f := ⟨F.fn.toNat, by omega⟩
      have hfl : f < l.length := by omega
      rw [hf] at t0 c1 c2 ⊢
      obtain ⟨ad, A1, c0, e, p0, p1, hc1, hC1⟩ := at_T68 HC.out (f : Int) (by omega) c2
      rw [Int.toNat_natCast] at p0 p1
      obtain ⟨L, hL⟩ : ∃ L, L = (rd_T68 l (f : Int)).f1.length := ⟨_, rfl⟩
      rw [← hL] at p1 ⊢
      subst e
      clear hL hC1 hc1 hf p0
      generalize l.length = n at c2 ⊢
      have k2 : ((f : Int) < (n : Int)) = True := eq_true c2
      have k2' : (f < n) = True := eq_true (by omega)
      by_cases c3 : 0 ≤ F.at_
      · have k3 : (0 ≤ F.at_) = True := eq_true c3
        by_cases c4 : F.at_ < L
        · have k4 : (F.at_ < (L : Int)) = True := eq_true c4
          rw [decide_eq_true (by omega)]
          clear c1 c2 c3 c4 hfl
          go_enter Try.func26, Try.ntmps26
          go_wp2_with fail
          go_quiet (fail)
          go_wp2_with fail
          go_ret
          exact ⟨rfl, pw_below_drewN (Below.refl _ _) _⟩
        · have k4 : (F.at_ < (L : Int)) = False := eq_false c4
          rw [decide_eq_false (by omega)]
          clear c1 c2 c3 c4 hfl
          go_enter Try.func26, Try.ntmps26
          go_wp2_with fail
          go_quiet (fail)
          go_wp2_with fail
          go_ret
          exact ⟨rfl, pw_below_drewN (Below.refl _ _) _⟩
      · have k3 : (0 ≤ F.at_) = False := eq_false c3
        rw [decide_eq_false (by omega)]
        clear c1 c2 c3 hfl
        go_enter Try.func26, Try.ntmps26
        go_wp2_with fail
        go_quiet (fail)
        go_wp2_with fail
        go_ret
        exact ⟨rfl, pw_below_drewN (Below.refl _ _) _⟩
    · have k1 : (0 ≤ F.fn) = True := eq_true c1
      have k2 : (F.fn < (l.length : Int)) = False := eq_false c2
      rw [decide_eq_false (by omega)]
      clear c1 c2 HC
      generalize l.length = n at k2 ⊢
      go_enter Try.func26, Try.ntmps26
      go_wp2_with fail
      go_quiet (fail)
      go_wp2_with fail
      go_ret
      exact ⟨rfl, pw_below_drewN (Below.refl _ _) _⟩
  · have k1 : (0 ≤ F.fn) = False := eq_false c1
    rw [decide_eq_false (by omega)]
    clear c1 HC
    go_enter Try.func26, Try.ntmps26
    go_wp2_with fail
    go_quiet (fail)
    go_wp2_with fail
    go_ret
    exact ⟨rfl, pw_below_drewN (Below.refl _ _) _⟩
end Go.Proofs.Ytcciejcpijlkfaa.H

set_option linter.unusedVariables false
set_option linter.unusedSimpArgs false
namespace Go.Proofs.Ytcciejcpijlkfaa.H
open Go.RowKit Go.Hay Go.Proofs.YtcciejcpijlkfaaW.PrintWords Go.Proofs.YtcciejcpijlkfaaW.PrintLast Go.Proofs.YtcciejcpijlkfaaW.PrintMore
structure XW (w : World) (b d : Int) (W : World) : Prop where
  below : Below w.heap.size w W
  c0 : W.heap[w.heap.size]? = some (.cells #[.int .i64 b, .int .i64 d] 43 (0, 0))
  c1 : W.heap[w.heap.size + 1]? = some zEff
theorem XW.start (w : World) (b d : Int) : XW w b d ((w.alloc (.cells #[.int .i64 b, .int .i64 d] 43)).alloc zEff) := by
  have e1 : (w.alloc (.cells #[.int .i64 b, .int .i64 d] 43)).heap.size = w.heap.size + 1 := Array.size_push _
  have b1 := (Below.refl w.heap.size w).alloc (Nat.le_refl _) (.cells #[.int .i64 b, .int .i64 d] 43)
  refine ⟨b1.alloc b1.size _, blk_alloc (alloc_blk w _) _, ?_⟩
  have := alloc_blk (w.alloc (.cells #[.int .i64 b, .int .i64 d] 43)) zEff
  rw [e1] at this
  exact this
theorem XW.below2 {w W W' : World} {b d : Int} (h : XW w b d W) (hb : Below W.heap.size W W') : XW w b d W' :=
  ⟨h.below.trans (hb.mono h.below.size), (hb.block _ (blk_lt h.c0)).trans h.c0, (hb.block _ (blk_lt h.c1)).trans h.c1⟩
theorem exec_results {tmps : Array Value} {w : World} {rb : Nat} {e : Ef} {Aa : Option Addr} {ca : Nat} {Ab : Option Addr} {cb : Nat} {v : Value} (t : tmps.getD 6 undef = .pointer (some ⟨rb, 0, none⟩)) (t7 : tmps.getD 7 undef = v) (c : w.heap[rb]? = some (effObj e Aa ca Ab cb)) :
    (results Try.f11 tmps).run Try.prog w = .ok (.tuple #[efV e Aa ca Ab cb, v]) w := by
  have q0 := blk_cell c 0
  have q1 := blk_cell c 1
  have q2 := blk_cell c 2
  have q3 := blk_cell c 3
  have q4 := blk_cell c 4
  have q5 := blk_cell c 5
  have q6 := blk_cell c 6
  have q7 := blk_cell c 7
  simp only [Array.getD_eq_getD_getElem?] at t t7
  simp [results, Try.results11, go_sem, t, t7, q0, q1, q2, q3, q4, q5, q6, q7, efV]
/-- what Exec leaves. -/
def ExecP (fb : Nat) (vp : Value) (r : Ef × Int × Fr) (w : World) (x : Ending) (w' : World) : Prop :=
  ∃ Aa ca Ab cb, x = .returned (.tuple #[efV r.1 Aa ca Ab cb, .int .i64 r.2.1]) ∧ EfC w.heap.size w' r.1 Aa ca Ab cb ∧ FB fb r.2.2 vp w' ∧ Keep (fun q => q = fb) w w'
set_option maxRecDepth 100000 in
set_option maxHeartbeats 8000000 in
theorem Exec_any {A : Option Addr} {c : Nat} {l : List S68} {b d : Int} {fb : Nat} {F : Fr} {Ap : Option Addr} {cp : Nat} {w : World} (hCK : ∀ w', Keep (fun q => q = fb) w w' → k68.C w' A l.length l) (hc : l.length ≤ c) (hPK : ∀ w', Keep (fun q => q = fb) w w' → (Kd.int .i64).C w' Ap F.path.length F.path) (hpc : F.path.length ≤ cp) (hpn : Ap = none → cp = 0) (h : FB fb F (.slice Ap F.path.length cp) w) (hst : -9223372036854775808 ≤ F.steps) :
    Calls Try.prog 11 #[.slice A l.length c, .agg #[.int .i64 b, .int .i64 d], .pointer (some ⟨fb, 0, none⟩)] w (ExecP fb (.slice Ap F.path.length cp) (execP l b d F) w) := by
  obtain ⟨W, hW⟩ : ∃ W, W = (w.alloc (.cells #[.int .i64 b, .int .i64 d] 43)).alloc (.cells #[.int .i64 0, .int .i64 0, .int .i64 0, .int .i64 0, .int .i64 0, .int .i64 0, .slice none 0 0, .slice none 0 0] 36) := ⟨_, rfl⟩
  have hX : XW w b d W := by rw [hW]; exact XW.start w b d
  have HX := Aside0.mk hX
  have HW := Aside0.mk hW
  have d0 := blk_cell hX.c0 0
  have d1 := blk_cell hX.c0 1
  clear hW hX
  have hC := hCK w (Keep.refl _ _)
  have hP := hPK w (Keep.refl _ _)
  have HCK := Aside0.mk (And.intro hCK hPK)
  clear hCK hPK
  have HC := Aside0.mk (And.intro hC hc)
  have HP := Aside0.mk (And.intro hP (And.intro hpc (And.intro hpn hst)))
  have H := Aside0.mk (And.intro h (h.below HX.out.below))
  clear hC hc hP hpc hpn h hst
  obtain ⟨R, hR⟩ : ∃ R, R = execP l b d F := ⟨_, rfl⟩
  rw [← hR]
  unfold execP at hR
  have HRR := Aside0.mk hR
  clear hR
  go_enter Try.func11, Try.ntmps11
  go_upto_region 1 with (fail)
  rw [← HW.out]
  go_wp2_with fail
  refine (frame_right.calls A c l b d _ W (Kd.C_below HC.out.1 HX.out.below) HC.out.2 (fright_f l b d)).mono ?_
  rintro e w1 ⟨rfl, hb1⟩
  have HX := Aside0.mk (HX.out.below2 hb1)
  clear d0 d1 hb1 HW
  have H := Aside0.mk (And.intro H.out.1 (H.out.1.below HX.out.below))
  cases hRt : frRight l b d with
  | false =>
    have hR := HRR.out
    rw [if_neg (by rw [hRt]; decide)] at hR
    have HRR := Aside0.mk hR
    clear hR hRt
    have hc1 := HX.out.c1
    have HC1 := Aside0.mk hc1
    have q0 := blk_cell hc1 0
    have q1 := blk_cell hc1 1
    have q2 := blk_cell hc1 2
    have q3 := blk_cell hc1 3
    have q4 := blk_cell hc1 4
    have q5 := blk_cell hc1 5
    have q6 := blk_cell hc1 6
    have q7 := blk_cell hc1 7
    have f0 := blk_frozen hc1 0
    have f1 := blk_frozen hc1 1
    have f2 := blk_frozen hc1 2
    have f3 := blk_frozen hc1 3
    have f4 := blk_frozen hc1 4
    have f5 := blk_frozen hc1 5
    have f6 := blk_frozen hc1 6
    have f7 := blk_frozen hc1 7
    clear hc1
    go_wp2_with fail
    obtain ⟨hs1, hs2⟩ := storeE_at HC1.out efZ none 0 none 0
    rw [HRR.out]
    exact ⟨rfl, _, exec_results (e := efZ) rfl rfl hs1, none, 0, none, 0, rfl, EfC.plain _ _ _ ⟨rfl, rfl⟩, H.out.2.keep hs2 (by have := H.out.1.lt; omega), (Keep.of_below HX.out.below _).then hs2 (fun q hq e => by omega)⟩
  | true =>
    have hR := HRR.out
    rw [if_pos hRt] at hR
    have HRR := Aside0.mk hR
    have HRT := Aside0.mk hRt
    clear hR hRt
    go_wp2_with fail
    refine (there_any (c := c) (Kd.C_below HC.out.1 HX.out.below) H.out.2).mono ?_
    rintro e w2 ⟨rfl, hb2⟩
    have HX := Aside0.mk (HX.out.below2 hb2)
    have H := Aside0.mk (And.intro H.out.1 (H.out.1.below HX.out.below))
    clear hb2
    cases hTh : thereP l F with
    | false =>
      have hR := HRR.out
      rw [if_neg (by rw [hTh]; decide)] at hR
      have HRR := Aside0.mk hR
      clear hR hTh
      have hc1 := HX.out.c1
      have HC1 := Aside0.mk hc1
      have q0 := blk_cell hc1 0
      have q1 := blk_cell hc1 1
      have q2 := blk_cell hc1 2
      have q3 := blk_cell hc1 3
      have q4 := blk_cell hc1 4
      have q5 := blk_cell hc1 5
      have q6 := blk_cell hc1 6
      have q7 := blk_cell hc1 7
      have f0 := blk_frozen hc1 0
      have f1 := blk_frozen hc1 1
      have f2 := blk_frozen hc1 2
      have f3 := blk_frozen hc1 3
      have f4 := blk_frozen hc1 4
      have f5 := blk_frozen hc1 5
      have f6 := blk_frozen hc1 6
      have f7 := blk_frozen hc1 7
      clear hc1
      go_wp2_with fail
      obtain ⟨hs1, hs2⟩ := storeE_at HC1.out efZ none 0 none 0
      rw [HRR.out]
      exact ⟨rfl, _, exec_results (e := efZ) rfl rfl hs1, none, 0, none, 0, rfl, EfC.plain _ _ _ ⟨rfl, rfl⟩, H.out.2.keep hs2 (by have := H.out.1.lt; omega), (Keep.of_below HX.out.below _).then hs2 (fun q hq e => by omega)⟩
    | true =>
      have hR := HRR.out
      rw [if_pos hTh] at hR
      have HRR := Aside0.mk hR
      have HTH := Aside0.mk hTh
      clear hR hTh
      have d0 := blk_cell HX.out.c0 0
      have t2 := H.out.2.fix.2.2.1
      by_cases hb : b ≤ F.steps
      · have hb2 : (b ≤ F.steps) = True := eq_true hb
        have hR := HRR.out
        rw [if_pos hb] at hR
        have HRR := Aside0.mk hR
        clear hR hb
        go_wp2_with fail
        go_quiet (fail)
        go_wp2_with fail
        refine (ffails_any _ _).mono ?_
        rintro e w3 ⟨rfl, hb3⟩
        clear d0 t2 hb2
        have hbd := (pw_below_drewN (Below.refl w2.heap.size w2) nq).trans (hb3.mono (pw_below_drewN (Below.refl w2.heap.size w2) nq).size)
        have HX := Aside0.mk (HX.out.below2 hbd)
        have H := Aside0.mk (And.intro H.out.1 (H.out.1.below HX.out.below))
        clear hb3 hbd
        unfold efV
        have hc1 := HX.out.c1
        have HC1 := Aside0.mk hc1
        have q0 := blk_cell hc1 0
        have q1 := blk_cell hc1 1
        have q2 := blk_cell hc1 2
        have q3 := blk_cell hc1 3
        have q4 := blk_cell hc1 4
        have q5 := blk_cell hc1 5
        have q6 := blk_cell hc1 6
        have q7 := blk_cell hc1 7
        have f0 := blk_frozen hc1 0
        have f1 := blk_frozen hc1 1
        have f2 := blk_frozen hc1 2
        have f3 := blk_frozen hc1 3
        have f4 := blk_frozen hc1 4
        have f5 := blk_frozen hc1 5
        have f6 := blk_frozen hc1 6
        have f7 := blk_frozen hc1 7
        clear hc1
        go_wp2_with fail
        obtain ⟨hs1, hs2⟩ := storeE_at HC1.out (efFails 3) none 0 none 0
        rw [HRR.out]
        exact ⟨rfl, _, exec_results (e := efFails 3) rfl rfl hs1, none, 0, none, 0, rfl, EfC.plain _ _ _ ⟨rfl, rfl⟩, H.out.2.keep hs2 (by have := H.out.1.lt; omega), (Keep.of_below HX.out.below _).then hs2 (fun q hq e => by omega)⟩
      · have hb2 : (b ≤ F.steps) = False := eq_false hb
        have hR := HRR.out
        rw [if_neg hb] at hR
        have HRR := Aside0.mk hR
        have HBS := Aside0.mk hb
        clear hR hb
        go_wp2_with fail
        go_quiet (fail)
        go_upto_region 7 with (fail)
        have hbd := pw_below_drewN (Below.refl w2.heap.size w2) nq
        have HX := Aside0.mk (HX.out.below2 hbd)
        have H := Aside0.mk (And.intro H.out.1 (H.out.1.below HX.out.below))
        clear hbd d0 t2 hb2
        generalize w2.drewN nq = W at HX H ⊢
        have hth := HTH.out
        unfold thereP at hth
        have hth := of_decide_eq_true hth
        obtain ⟨f, hf⟩ : ∃ f : Nat, F.fn = f := ⟨F.fn.toNat, by omega⟩
        obtain ⟨a, ha⟩ : ∃ a : Nat, F.at_ = a := ⟨F.at_.toNat, by omega⟩
        rw [hf, ha] at hth
        have hCw := Kd.C_below HC.out.1 HX.out.below
        obtain ⟨ad1, A1, c1, e1, p0, p1, hc1, hC1⟩ := at_T68 hCw (f : Int) (by omega) (by omega)
        obtain ⟨code, hcode⟩ : ∃ code, code = (rd_T68 l (f : Int)).f1 := ⟨_, rfl⟩
        rw [← hcode] at p1 hc1 hC1 hth
        obtain ⟨ad2, e2, hx0, hx1, hx2, hx3, hx4⟩ := at_T65 hC1 (a : Int) (by omega) (by omega)
        obtain ⟨x, hx⟩ : ∃ x, x = rd_T65 code (a : Int) := ⟨_, rfl⟩
        rw [← hx] at hx0 hx1 hx2 hx3 hx4
        have hIO : IOk l code.length x := by
          have hl := check_ok (of_decide_eq_true HRT.out).1
          have hfl : f < l.length := by omega
          have hrd : rd_T68 l (f : Int) = l[f] := by simp [rd_T68, hfl]
          have h9 := (hl.fn f hfl).2.2.1
          rw [hrd] at hcode
          subst hcode
          have hal : a < l[f].f1.length := by omega
          have h8 := h9 a hal
          have e9 : rd_T65 l[f].f1 (a : Int) = l[f].f1[a] := by simp [rd_T65, hal]
          rw [hx, e9]
          exact h8
        have hc64 : code.length ≤ 64 := by
          have hl := check_ok (of_decide_eq_true HRT.out).1
          have hfl : f < l.length := by omega
          have hrd : rd_T68 l (f : Int) = l[f] := by simp [rd_T68, hfl]
          rw [hcode, hrd]
          exact ((hl.fn f hfl).2.1).2
        have hix : instrF l F = x := by unfold instrF; rw [hf, ha, ← hcode, ← hx]
        have hR := HRR.out
        rw [hix] at hR
        have HRR := Aside0.mk hR
        have HIO := Aside0.mk (And.intro hIO (And.intro ha (And.intro hth hc64)))
        have t0 := H.out.2.fix.1
        have t1 := H.out.2.fix.2.1
        rw [hf] at t0
        rw [ha] at t1
        obtain ⟨x0, x1, x2, x3, x4⟩ := x
        simp only [Int.toNat_natCast] at p1 hx0 hx1 hx2 hx3 hx4
        have k1 : ((f : Int) < (l.length : Nat)) = True := eq_true (by omega)
        have k2 : ((a : Int) < (code.length : Nat)) = True := eq_true (by omega)
        obtain ⟨cl, hcl⟩ : ∃ cl, cl = code.length := ⟨_, rfl⟩
        rw [← hcl] at p1 k2
        have HM := Aside0.mk (And.intro t0 (And.intro t1 (And.intro p1 (And.intro hx0 (And.intro hx1 (And.intro hx2 (And.intro hx3 hx4)))))))
        subst e1 e2
        clear hcl hc64 hth hf ha hCw p0 hc1 hC1 hcode hx hIO hix hR t0 t1 p1 hx0 hx1 hx2 hx3 hx4
        refine wp_region_T (fun w' => Below W.heap.size W w') [] (.takes [0, 1, 2, 3, 4, 5, 6, 7, 8, 9, 10, 11, 12, 13] (.op 14 (.op 15 .done))) (by kernel_rfl) (by kernel_rfl) (by kernel_rfl) (by kernel_rfl) (panic_via (P := Try.prog) (fn := Try.f11) (R := ExecP fb (.slice Ap F.path.length cp) R w) (fun _ _ _ => rfl)) ?_
        have hs : Below W.heap.size W W.drew := (Below.refl _ _).drew
        have hmv : ∀ {w' : World} {p : Addr} {v : Value}, Below W.heap.size W w' → W.cell? p = some v → w'.cell? p = some v := fun hS hq => (hS.cell (World.block_lt_of_cell? W _ hq)).trans hq
        simp only [Turns.takes]
        repeat (
          (first
            | (refine runT_take (v := ?_) (by rfl) (by rfl) (fun w' hS => ?_) hs ?_
               rotate_left
               · (have t0 := hmv hS HM.out.1; have t1 := hmv hS HM.out.2.1; have p1 := hmv hS HM.out.2.2.1; have hx0 := hmv hS HM.out.2.2.2.1; have hx1 := hmv hS HM.out.2.2.2.2.1; have hx2 := hmv hS HM.out.2.2.2.2.2.1; have hx3 := hmv hS HM.out.2.2.2.2.2.2.1; have hx4 := hmv hS HM.out.2.2.2.2.2.2.2; go_simp; exact rfl))
            | refine runT_skip (by rfl) (by rfl) hs ?_)
          (try simp only [Act.put, List.setIfInBounds_toArray, List.set_cons_zero, List.set_cons_succ]))
        clear hmv k1 k2
        obtain ⟨wd, hwd⟩ : ∃ wd, wd = W.drew := ⟨_, rfl⟩
        rw [← hwd] at hs ⊢
        clear hwd
        refine runT_op (by rfl) (by rfl) (fun K hK => ?_)
        go_simp
        obtain ⟨ib, hib⟩ : ∃ ib, ib = wd.heap.size := ⟨_, rfl⟩
        rw [← hib]
        obtain ⟨w5, hw5⟩ : ∃ w5, w5 = wd.alloc (.cells #[.int .i64 0, .int .i64 0, .int .i64 0, .int .i64 0, .int .i64 0] 65) := ⟨_, rfl⟩
        rw [← hw5]
        have hb5 : Below wd.heap.size wd w5 := by rw [hw5]; exact (Below.refl wd.heap.size wd).alloc (Nat.le_refl _) _
        have hi5 : w5.heap[ib]? = some (.cells #[.int .i64 0, .int .i64 0, .int .i64 0, .int .i64 0, .int .i64 0] 65 (0, 0)) := by rw [hw5, hib]; exact alloc_blk wd _
        have hs5 := hs.trans (hb5.mono hs.size)
        refine hK _ _ hs5 ?_
        have HIB := Aside0.mk (show W.heap.size ≤ ib by rw [hib]; exact hs.size)
        clear hK K hib hw5
        (try simp only [Act.put, List.setIfInBounds_toArray, List.set_cons_zero, List.set_cons_succ])
        have q0 := blk_cell hi5 0
        have q1 := blk_cell hi5 1
        have q2 := blk_cell hi5 2
        have q3 := blk_cell hi5 3
        have q4 := blk_cell hi5 4
        have f0 := blk_frozen hi5 0
        have f1 := blk_frozen hi5 1
        have f2 := blk_frozen hi5 2
        have f3 := blk_frozen hi5 3
        have f4 := blk_frozen hi5 4
        refine runT_op (by rfl) (by rfl) (fun K hK => ?_)
        go_simp
        obtain ⟨W2, hW2⟩ : ∃ W2, W2 = ((((w5.setCell ⟨ib, 0, none⟩ (.int .i64 x0)).setCell ⟨ib, 1, none⟩ (.int .i64 x1)).setCell ⟨ib, 2, none⟩ (.int .i64 x2)).setCell ⟨ib, 3, none⟩ (.int .i64 x3)).setCell ⟨ib, 4, none⟩ (.int .i64 x4) := ⟨_, rfl⟩
        rw [← hW2]
        have hkk : Keep (fun q => q = ib) w5 W2 := by
          rw [hW2]
          exact (((((Keep.refl (fun q => q = ib) w5).set (p := ⟨ib, 0, none⟩) (.inr rfl) _).set (p := ⟨ib, 1, none⟩) (.inr rfl) _).set (p := ⟨ib, 2, none⟩) (.inr rfl) _).set (p := ⟨ib, 3, none⟩) (.inr rfl) _).set (p := ⟨ib, 4, none⟩) (.inr rfl) _
        have hi6 : W2.heap[ib]? = some (.cells #[.int .i64 x0, .int .i64 x1, .int .i64 x2, .int .i64 x3, .int .i64 x4] 65 (0, 0)) := by
          have := blk_set (blk_set (blk_set (blk_set (blk_set hi5 0 (.int .i64 x0)) 1 (.int .i64 x1)) 2 (.int .i64 x2)) 3 (.int .i64 x3)) 4 (.int .i64 x4)
          rw [hW2]; exact this
        have hs6 : Below W.heap.size W W2 := hs5.trans (hkk.below hs5.size (fun q hq e => by have := HIB.out; omega))
        refine hK _ _ hs6 ?_
        clear hK K q0 q1 q2 q3 q4 f0 f1 f2 f3 f4
        refine runT_done ?_
        have HC1L := Aside0.mk (blk_lt HX.out.c1)
        have HX := Aside0.mk (HX.out.below2 hs6)
        have H := Aside0.mk (And.intro H.out.1 (H.out.1.below HX.out.below))
        have HI := Aside0.mk (And.intro hi6 (show w.heap.size + 1 < ib from Nat.lt_of_lt_of_le HC1L.out HIB.out))
        clear hs hs5 hs6 hkk hi6 hi5 hb5 hW2
        generalize W2 = W at HX H HI ⊢
        have t2 := H.out.2.fix.2.2.1
        have z2 := H.out.2.frozen 2
        have hbnd : b ≤ 10000 := (of_decide_eq_true HRT.out).2.1.2
        have hws : IntKind.i64.wrap (F.steps + 1) = F.steps + 1 := IntWalk.i64_in _ (by have := HP.out.2.2.2; have := HBS.out; omega)
        have hwa : IntKind.i64.wrap ((a : Int) + 1) = (a : Int) + 1 := IntWalk.i64_in _ (by have h9 := HIO.out.2.2.1; have h8 := HIO.out.2.2.2; omega)
        clear hbnd
        go_upto_region 9 with (fail)
        obtain ⟨W3, hW3⟩ : ∃ W3, W3 = W.setCell ⟨fb, 2, none⟩ (.int .i64 (F.steps + 1)) := ⟨_, rfl⟩
        rw [← hW3]
        have hF3 := H.out.2.setSteps (F.steps + 1)
        have hk3 : Keep (fun q => q = fb) W W3 := by rw [hW3]; exact (Keep.refl (fun q => q = fb) W).set (p := ⟨fb, 2, none⟩) (.inr rfl) _
        rw [← hW3] at hF3
        have H3 := Aside0.mk (And.intro hF3 hk3)
        have t1 : W3.cell? ⟨fb, 1, none⟩ = some (.int .i64 (a : Int)) := by rw [← HIO.out.2.1]; exact hF3.fix.2.1
        have z1 := hF3.frozen 1
        clear t2 z2 hws hW3 hF3 hk3
        go_upto_region 10 with (fail)
        obtain ⟨W4, hW4⟩ : ∃ W4, W4 = W3.setCell ⟨fb, 1, none⟩ (.int .i64 ((a : Int) + 1)) := ⟨_, rfl⟩
        rw [← hW4]
        have hF4 := H3.out.1.setAt ((a : Int) + 1)
        have hk4 : Keep (fun q => q = fb) W W4 := H3.out.2.trans (by rw [hW4]; exact (Keep.refl (fun q => q = fb) W3).set (p := ⟨fb, 1, none⟩) (.inr rfl) _)
        rw [← hW4] at hF4
        have hF4' : FB fb (stepF F) (.slice Ap F.path.length cp) W4 := by
          have e : stepF F = { F with steps := F.steps + 1, at_ := (a : Int) + 1 } := by unfold stepF; rw [HIO.out.2.1]
          rw [e]; exact hF4
        have HX4 := Aside0.mk (And.intro (hk4.blk HX.out.c0 (by have := H.out.1.lt; omega)) (And.intro (hk4.blk HX.out.c1 (by have := H.out.1.lt; omega)) (hk4.blk HI.out.1 (by have := H.out.1.lt; have := HI.out.2; omega))))
        have H4 := Aside0.mk (And.intro hF4' hk4)
        clear t1 z1 hwa hW4 hF4 hF4' hk4
        refine wp_region_T (fun w' => w'.heap[w.heap.size]? = W4.heap[w.heap.size]? ∧ w'.heap[ib]? = W4.heap[ib]?) [] (.takes [1, 2, 4, 5, 6, 7, 8] (.op 0 (.op 3 (.op 9 (.op 10 (.op 11 .done)))))) (by kernel_rfl) (by kernel_rfl) (by kernel_rfl) (by kernel_rfl) (panic_via (P := Try.prog) (fn := Try.f11) (R := ExecP fb (.slice Ap F.path.length cp) R w) (fun _ _ _ => rfl)) ?_
        have hs : W4.drew.heap[w.heap.size]? = W4.heap[w.heap.size]? ∧ W4.drew.heap[ib]? = W4.heap[ib]? := ⟨rfl, rfl⟩
        simp only [Turns.takes]
        repeat (
          (first
            | (refine runT_take (v := ?_) (by rfl) (by rfl) (fun w' hS => ?_) hs ?_
               rotate_left
               · (have hL := hS.1.trans HX4.out.1; have hI := hS.2.trans HX4.out.2.2; have d0 := blk_cell hL 0; have d1 := blk_cell hL 1; have c0 := blk_cell hI 0; have c1 := blk_cell hI 1; have c2 := blk_cell hI 2; have c3 := blk_cell hI 3; have c4 := blk_cell hI 4; go_simp; exact rfl))
            | refine runT_skip (by rfl) (by rfl) hs ?_)
          (try simp only [Act.put, List.setIfInBounds_toArray, List.set_cons_zero, List.set_cons_succ]))
        have hbd : Below W4.heap.size W4 W4.drew := (Below.refl _ _).drew
        obtain ⟨wd, hwd⟩ : ∃ wd, wd = W4.drew := ⟨_, rfl⟩
        rw [← hwd] at hs hbd ⊢
        clear hwd
        refine runT_op (by rfl) (by rfl) (fun K hK => ?_)
        go_simp
        refine (fdeeds_any wd).mono ?_
        rintro e w6 ⟨rfl, hb6, hD6⟩
        have hb46 : Below W4.heap.size W4 w6 := hbd.trans (hb6.mono hbd.size)
        have hs6 : w6.heap[w.heap.size]? = W4.heap[w.heap.size]? ∧ w6.heap[ib]? = W4.heap[ib]? := ⟨hb46.block _ (blk_lt HX4.out.1), hb46.block _ (blk_lt HX4.out.2.2)⟩
        refine hK _ _ hs6 ?_
        have HD6 := Aside0.mk hD6
        have HB6 := Aside0.mk hb46
        obtain ⟨mb, hmb⟩ : ∃ mb, mb = wd.heap.size := ⟨_, rfl⟩
        rw [← hmb] at hD6 ⊢
        clear hK K hb6 hs hbd hb46 HD6 hmb
        (try simp only [Act.put, List.setIfInBounds_toArray, List.set_cons_zero, List.set_cons_succ])
        have hop : 1 ≤ x0 ∧ x0 ≤ 17 := HIO.out.1.op
        have hlook := hD6.look x0 hop.1 hop.2
        clear hD6
        refine runT_op (by rfl) (by rfl) (fun K hK => ?_)
        go_simp
        refine hK _ _ hs6 ?_
        clear hK K hlook
        (try simp only [Act.put, List.setIfInBounds_toArray, List.set_cons_zero, List.set_cons_succ])
        have hent := fun args w => fdeed_enter hop args w
        refine runT_op (by rfl) (by rfl) (fun K hK => ?_)
        go_simp
        have hl := check_ok (of_decide_eq_true HRT.out).1
        have hk16 : Keep (fun q => q = fb) w w6 := ((Keep.of_below HX.out.below _).trans H4.out.2).trans (Keep.of_below HB6.out _)
        refine (do_any (F := stepF F) (x := ⟨x0, x1, x2, x3, x4⟩) hl (HCK.out.1 w6 hk16) (HCK.out.2 w6 hk16) HP.out.2.1 HP.out.2.2.1 (H4.out.1.below HB6.out) HIO.out.1 (of_decide_eq_true HRT.out).2.2.2).mono ?_
        obtain ⟨q, hq⟩ : ∃ q, q = doF l d ⟨x0, x1, x2, x3, x4⟩ (stepF F) := ⟨_, rfl⟩
        rw [← hq]
        have hR := HRR.out
        rw [← hq] at hR
        have HRR := Aside0.mk hR
        rintro e w7 ⟨Aa, ca, Ab, cb, rfl, hE, hF, hk⟩
        have hs7 : w7.heap[w.heap.size]? = W4.heap[w.heap.size]? ∧ w7.heap[ib]? = W4.heap[ib]? := ⟨(hk.block _ (Nat.lt_of_lt_of_le (blk_lt HX4.out.1) HB6.out.size) (by have := H.out.1.lt; omega)).trans hs6.1, (hk.block _ (Nat.lt_of_lt_of_le (blk_lt HX4.out.2.2) HB6.out.size) (by have := H.out.1.lt; have := HI.out.2; omega)).trans hs6.2⟩
        refine hK _ _ hs7 ?_
        have hc7 : w7.heap[w.heap.size + 1]? = some zEff := hk.blk ((HB6.out.block _ (blk_lt HX4.out.2.1)).trans HX4.out.2.1) (by have := H.out.1.lt; omega)
        have HC7 := Aside0.mk hc7
        have H7 := Aside0.mk (And.intro hE (And.intro hF hk))
        clear hK K hl hq hR hE hF hk hs6 hent hk16
        (try simp only [Act.put, List.setIfInBounds_toArray, List.set_cons_zero, List.set_cons_succ])
        have q0 := blk_cell hc7 0
        have q1 := blk_cell hc7 1
        have q2 := blk_cell hc7 2
        have q3 := blk_cell hc7 3
        have q4 := blk_cell hc7 4
        have q5 := blk_cell hc7 5
        have q6 := blk_cell hc7 6
        have q7 := blk_cell hc7 7
        have f0 := blk_frozen hc7 0
        have f1 := blk_frozen hc7 1
        have f2 := blk_frozen hc7 2
        have f3 := blk_frozen hc7 3
        have f4 := blk_frozen hc7 4
        have f5 := blk_frozen hc7 5
        have f6 := blk_frozen hc7 6
        have f7 := blk_frozen hc7 7
        clear hc7
        unfold efV
        refine runT_op (by rfl) (by rfl) (fun K hK => ?_)
        go_simp
        clear q0 q1 q2 q3 q4 q5 q6 q7 f0 f1 f2 f3 f4 f5 f6 f7
        obtain ⟨hs1, hs2⟩ := storeE_at HC7.out q.1 Aa ca Ab cb
        have hs8 : (storeE w7 (w.heap.size + 1) q.1 Aa ca Ab cb).heap[w.heap.size]? = W4.heap[w.heap.size]? ∧ (storeE w7 (w.heap.size + 1) q.1 Aa ca Ab cb).heap[ib]? = W4.heap[ib]? := ⟨(hs2.block _ (Nat.lt_of_lt_of_le (Nat.lt_of_lt_of_le (blk_lt HX4.out.1) HB6.out.size) H7.out.2.2.size) (by omega)).trans hs7.1, (hs2.block _ (Nat.lt_of_lt_of_le (Nat.lt_of_lt_of_le (blk_lt HX4.out.2.2) HB6.out.size) H7.out.2.2.size) (by have := HI.out.2; omega)).trans hs7.2⟩
        refine hK _ _ hs8 ?_
        clear hK K hs7
        obtain ⟨W8, hW8⟩ : ∃ W8, W8 = storeE w7 (w.heap.size + 1) q.1 Aa ca Ab cb := ⟨_, rfl⟩
        rw [← hW8] at hs1 hs2 hs8
        have H8 := Aside0.mk (And.intro hs1 hs2)
        have e8 : (((((((w7.setCell ⟨w.heap.size + 1, 0, none⟩ (.int .i64 q.1.kind)).setCell ⟨w.heap.size + 1, 1, none⟩ (.int .i64 q.1.value)).setCell ⟨w.heap.size + 1, 2, none⟩ (.int .i64 q.1.reg)).setCell ⟨w.heap.size + 1, 3, none⟩ (.int .i64 q.1.fn)).setCell ⟨w.heap.size + 1, 4, none⟩ (.int .i64 q.1.hand)).setCell ⟨w.heap.size + 1, 5, none⟩ (.int .i64 q.1.why)).setCell ⟨w.heap.size + 1, 6, none⟩ (.slice Aa q.1.args.length ca)).setCell ⟨w.heap.size + 1, 7, none⟩ (.slice Ab q.1.path.length cb) = W8 := hW8.symm
        rw [e8]
        clear hW8 e8 hs1 hs2
        (try simp only [Act.put, List.setIfInBounds_toArray, List.set_cons_zero, List.set_cons_succ])
        refine runT_op (by rfl) (by rfl) (fun K hK => ?_)
        go_simp
        refine hK _ _ hs8 ?_
        clear hK K hs8
        refine runT_done ?_
        go_wp2_with fail
        show bodyPost _ _ (ExecP fb (.slice Ap F.path.length cp) R w) _ _ _
        rw [HRR.out]
        have hsz : w.heap.size ≤ w6.heap.size := Nat.le_trans (Nat.le_trans HX.out.below.size H4.out.2.size) HB6.out.size
        have hlt1 := Nat.lt_of_lt_of_le (blk_lt HX4.out.2.1) HB6.out.size
        refine ⟨rfl, _, exec_results (e := q.1) (Aa := Aa) (ca := ca) (Ab := Ab) (cb := cb) rfl rfl H8.out.1, Aa, ca, Ab, cb, rfl, ?_, H7.out.2.1.keep H8.out.2 (by have := H.out.1.lt; omega), ?_⟩
        · have h9 := H7.out.1.keep H8.out.2 (fun q hq hl e => by omega)
          exact ⟨h9.args, h9.argsC, h9.path, h9.pathC, h9.newA.imp id (fun ⟨ad, e1, e2⟩ => ⟨ad, e1, by omega⟩), h9.newP.imp id (fun ⟨ad, e1, e2⟩ => ⟨ad, e1, by omega⟩)⟩
        · exact ((((Keep.of_below HX.out.below _).trans H4.out.2).trans (Keep.of_below HB6.out _)).trans H7.out.2.2).then H8.out.2 (fun q hq e => by omega)
end Go.Proofs.Ytcciejcpijlkfaa.H

set_option linter.unusedVariables false
set_option linter.unusedSimpArgs false
namespace Go.Proofs.Ytcciejcpijlkfaa.H
open Go.RowKit Go.Hay Go.Proofs.YtcciejcpijlkfaaW.PrintWords Go.Proofs.YtcciejcpijlkfaaW.PrintLast Go.Proofs.YtcciejcpijlkfaaW.PrintMore
theorem args_cellsF {w : World} {A : Option Addr} {xs : List Int} (h : (Kd.int .i64).C w A xs.length xs) (hx : 0 < xs.length) : ∃ ad, A = some ad ∧ ∀ j v, (xs.map (Value.int .i64))[j]? = some v → w.cell? (ad.add j) = some v := by
  obtain ⟨_, _, h3⟩ := h
  obtain ⟨ad, e, h4⟩ := h3 hx
  refine ⟨ad, e, fun j v hj => ?_⟩
  rw [List.getElem?_map] at hj
  cases hp : xs[j]? with
  | none => rw [hp] at hj; cases hj
  | some p =>
    rw [hp] at hj
    cases hj
    obtain ⟨cs, h5, h6, h7⟩ := h4 j p hp
    have h6 : cs = [.int .i64 p] := h6
    subst h6
    have := h7 0 _ rfl
    have e2 : j * (Kd.int .i64).sz + 0 = j := Nat.mul_one j
    rwa [e2] at this
def newFr (fn : Int) (path args hands : List Int) : Fr := ⟨fn, 0, 0, 0, path, newRegs args, hands⟩
theorem newRegsF_len (args : List Int) : (newRegs args).length = 8 := by
  unfold newRegs
  rw [List.length_append, List.length_take, List.length_replicate]
  omega
theorem splice_fr (h5 rest : List Value) (hl : h5.length = 5) (args : List Int) :
    splice (h5 ++ ((List.replicate 8 (0 : Int)).map (Value.int .i64) ++ rest)) 5 ((args.take 8).map (Value.int .i64)) = h5 ++ ((newRegs args).map (Value.int .i64) ++ rest) := by
  obtain ⟨n, hn⟩ : ∃ n, n = (args.take 8).length := ⟨_, rfl⟩
  have hn8 : n ≤ 8 := by rw [hn, List.length_take]; omega
  have e0 : 8 - args.length = 8 - n := by rw [hn, List.length_take]; omega
  unfold splice newRegs
  rw [List.length_map, List.map_append, ← hn, e0]
  have e2 : (h5 ++ ((List.replicate 8 (0 : Int)).map (Value.int .i64) ++ rest)).take 5 = h5 := by rw [← hl, List.take_left]
  have e3 : (h5 ++ ((List.replicate 8 (0 : Int)).map (Value.int .i64) ++ rest)).drop (5 + n) = (List.replicate (8 - n) (0 : Int)).map (Value.int .i64) ++ rest := by
    have : (h5 ++ ((List.replicate 8 (0 : Int)).map (Value.int .i64) ++ rest)).drop (5 + n) = ((List.replicate 8 (0 : Int)).map (Value.int .i64) ++ rest).drop n := by
      rw [← hl, List.drop_length_add_append]
    rw [this, List.drop_append_of_le_length (by simp; omega), ← List.map_drop, List.drop_replicate]
  rw [e2, e3, List.append_assoc]
theorem slice_regs_allF (fb : Nat) (w : World) : (Instr.sliceAt 24 (.pointer (some ⟨fb, 5, none⟩)) none none none).run Try.prog w = .ok (.slice (some ⟨fb, 5, none⟩) 8 8) w := by
  have hal : Try.prog.arrayLen 24 = 8 := by kernel_rfl
  have hel : Try.prog.elem 24 = 2 := by kernel_rfl
  have ht : Try.prog.underlying 24 = some (.array (Try.prog.arrayLen 24) (Try.prog.elem 24)) := by rw [hal, hel]; exact Try.underlying24
  have hsz : ∀ w, (sizeOf 2).run Try.prog w = .ok 1 w := fun _ => by kernel_rfl
  rw [run_sliceAt_array_all w 24 ⟨fb, 5, none⟩ ht, hal, hel, hsz]
  rfl
/-- what New leaves: a frame of its own, whose path's row is its own. -/
def NewP (F : Fr) (w : World) (x : Ending) (w' : World) : Prop :=
  ∃ fb Ap cp, x = .returned (.pointer (some ⟨fb, 0, none⟩)) ∧ w.heap.size ≤ fb ∧ FB fb F (.slice Ap F.path.length cp) w' ∧ Below w.heap.size w w' ∧ F.path.length ≤ cp ∧ (Ap = none → cp = 0) ∧ (F.path = [] ∨ ∃ ad, Ap = some ad ∧ w.heap.size ≤ ad.block ∧ ad.block < fb) ∧ (Kd.int .i64).C w' Ap F.path.length F.path
set_option maxRecDepth 100000 in
set_option maxHeartbeats 8000000 in
theorem New_any (fn : Int) (Ap : Option Addr) (cp : Nat) (path : List Int) (Aa : Option Addr) (ca : Nat) (args : List Int) (h0 h1 h2 h3 : Int) (w : World) (hP : (Kd.int .i64).C w Ap path.length path) (hpc : path.length ≤ cp) (hpn : Ap = none → cp = 0) (hpl : path.length ≤ 1000) (hA : (Kd.int .i64).C w Aa args.length args) (hac : args.length ≤ ca) :
    Calls Try.prog 18 #[.int .i64 fn, .slice Ap path.length cp, .slice Aa args.length ca, .agg #[.int .i64 h0, .int .i64 h1, .int .i64 h2, .int .i64 h3]] w (NewP (newFr fn path args [h0, h1, h2, h3]) w) := by
  obtain ⟨W, hW⟩ : ∃ W, W = w.alloc (.cells #[.int .i64 h0, .int .i64 h1, .int .i64 h2, .int .i64 h3] 25) := ⟨_, rfl⟩
  have hb1 : Below w.heap.size w W := by rw [hW]; exact (Below.refl w.heap.size w).alloc (Nat.le_refl _) _
  have hbx : W.heap[w.heap.size]? = some (.cells #[.int .i64 h0, .int .i64 h1, .int .i64 h2, .int .i64 h3] 25 (0, 0)) := by rw [hW]; exact alloc_blk w _
  have HW := Aside0.mk hW
  have H1 := Aside0.mk (And.intro hb1 hbx)
  have H0 := Aside0.mk (And.intro hP (And.intro hpc (And.intro hpn (And.intro hpl (And.intro hA hac)))))
  clear hW hb1 hbx hP hpc hpn hpl hA hac
  go_enter Try.func18, Try.ntmps18
  go_upto_region 1 with (fail)
  rw [← HW.out]
  refine wp_region_T (fun w' => Below W.heap.size W w') [] (.takes [0, 1, 3] (.op 2 (.takes [4] (.op 5 (.op 6 .done))))) (by kernel_rfl) (by kernel_rfl) (by kernel_rfl) (by kernel_rfl) (panic_via (P := Try.prog) (fn := Try.f18) (R := NewP (newFr fn path args [h0, h1, h2, h3]) w) (fun _ _ _ => rfl)) ?_
  have hs : Below W.heap.size W W.drew := (Below.refl _ _).drew
  simp only [Turns.takes]
  repeat (
    (first
      | (refine runT_take (v := ?_) (by rfl) (by rfl) (fun w' hS => ?_) hs ?_
         rotate_left
         · (have hX := (hS.block _ (blk_lt H1.out.2)).trans H1.out.2; have d0 := blk_cell hX 0; have d1 := blk_cell hX 1; have d2 := blk_cell hX 2; have d3 := blk_cell hX 3; go_simp; exact rfl))
      | refine runT_skip (by rfl) (by rfl) hs ?_)
    (try simp only [Act.put, List.setIfInBounds_toArray, List.set_cons_zero, List.set_cons_succ]))
  refine runT_op (by rfl) (by rfl) (fun K hK => ?_)
  go_simp
  refine (clonei_any Ap cp path _ (Kd.C_below H0.out.1 (H1.out.1.trans (hs.mono H1.out.1.size))) (fun e => by have h1 := H0.out.2.2.1 e; have h2 := H0.out.2.1; exact ⟨h1, List.eq_nil_of_length_eq_zero (by omega)⟩) H0.out.2.2.2.1).mono ?_
  rintro e w1 ⟨v, rfl, hR, hb⟩
  have hs1 := hs.trans (hb.mono hs.size)
  refine hK _ _ hs1 ?_
  obtain ⟨A', c', rfl⟩ := Kd.R_slice hR
  clear hK K
  (try simp only [Act.put, List.setIfInBounds_toArray, List.set_cons_zero, List.set_cons_succ])
  have hs := hs1
  repeat (
    (first
      | (refine runT_take (v := ?_) (by rfl) (by rfl) (fun w' hS => ?_) hs ?_
         rotate_left
         · (skip; go_simp; exact rfl))
      | refine runT_skip (by rfl) (by rfl) hs ?_)
    (try simp only [Act.put, List.setIfInBounds_toArray, List.set_cons_zero, List.set_cons_succ]))
  refine runT_op (by rfl) (by rfl) (fun K hK => ?_)
  go_simp
  obtain ⟨fb, hfb⟩ : ∃ fb, fb = w1.heap.size := ⟨_, rfl⟩
  rw [← hfb]
  obtain ⟨W2, hW2⟩ : ∃ W2, W2 = w1.alloc (.cells #[.int .i64 fn, .int .i64 0, .int .i64 0, .int .i64 0, .slice A' path.length c', .int .i64 0, .int .i64 0, .int .i64 0, .int .i64 0, .int .i64 0, .int .i64 0, .int .i64 0, .int .i64 0, .int .i64 h0, .int .i64 h1, .int .i64 h2, .int .i64 h3] 62) := ⟨_, rfl⟩
  rw [← hW2]
  have hb2 : Below w1.heap.size w1 W2 := by rw [hW2]; exact (Below.refl w1.heap.size w1).alloc (Nat.le_refl _) _
  have hn2 : W2.heap[fb]? = some (.cells (frcells ⟨fn, 0, 0, 0, path, List.replicate 8 0, [h0, h1, h2, h3]⟩ (.slice A' path.length c')).toArray 62 (0, 0)) := by rw [hW2, hfb]; exact alloc_blk w1 _
  have hs2 := hs.trans (hb2.mono hs.size)
  refine hK _ _ hs2 ?_
  have hwt : w.heap.size ≤ fb := by rw [hfb]; exact Nat.le_trans H1.out.1.size hs.size
  have hq := Kd.R_reads' hR
  have hown := R_new hR
  have hlt : ∀ ad, A' = some ad → path ≠ [] → ad.block < w1.heap.size := fun ad e hne => by
    obtain ⟨g, cp', hv, _⟩ := Kd.R_form hR (List.length_pos_iff.2 hne)
    injection hv with hA _ _
    rw [hA] at e; cases e
    rw [hA] at hR
    exact (nums_own hR g rfl).2.2
  have hnil : A' = none → c' = 0 := fun e => by
    subst e
    obtain ⟨_, inner, ⟨h1, h2⟩, h3, h4⟩ := hR
    rcases h2 with h2 | ⟨g, cap, cur, e, _⟩
    · injection h2.1
    · cases e
  have HPP := Aside0.mk (And.intro (Kd.C_below hq.2.2 hb2) (And.intro hq.2.1 (And.intro hnil (show path = [] ∨ ∃ ad, A' = some ad ∧ w.heap.size ≤ ad.block ∧ ad.block < fb from by
    by_cases hpe : path = []
    · exact .inl hpe
    · rcases hown with e | ⟨ad, e1, e2⟩
      · exact absurd e hpe
      · exact .inr ⟨ad, e1, Nat.le_trans H1.out.1.size e2, by have := hlt ad e1 hpe; omega⟩))))
  have HS2 := Aside0.mk hs2
  have H2 := Aside0.mk (And.intro (H1.out.1.trans (hs2.mono H1.out.1.size)) (And.intro hn2 hwt))
  clear hK K hs hs1 hs2 hb hb2 hn2 hwt hW2 hfb hq hown hlt hnil hR
  (try simp only [Act.put, List.setIfInBounds_toArray, List.set_cons_zero, List.set_cons_succ])
  refine runT_op (by rfl) (by rfl) (fun K hK => ?_)
  go_simp
  refine hK _ _ HS2.out ?_
  clear hK K
  refine runT_done ?_
  have hsl := slice_regs_allF fb
  obtain ⟨cs, hcs⟩ : ∃ cs, cs = (args.take 8).map (Value.int .i64) := ⟨_, rfl⟩
  have hcl : cs.length = Nat.min args.length 8 := by rw [hcs, List.length_map, List.length_take]; exact Nat.min_comm _ _
  have HCS := Aside0.mk (And.intro hcs hcl)
  have hs1 : 0 < cs.length → some (⟨fb, 5, none⟩ : Addr) = some ⟨fb, 5, none⟩ ∧ ∃ ad, Aa = some ad ∧ ∀ j v, cs[j]? = some v → W2.cell? (ad.add j) = some v := by
    intro hp
    have hp0 : 0 < args.length := by rw [hcl] at hp; have h9 : Nat.min args.length 8 ≤ args.length := Nat.min_le_left _ _; omega
    obtain ⟨ad, e, h⟩ := args_cellsF (Kd.C_below H0.out.2.2.2.2.1 H2.out.1) hp0
    refine ⟨rfl, ad, e, fun j v hj => h j v ?_⟩
    rw [HCS.out.1, List.map_take] at hj
    by_cases hj8 : j < 8
    · rwa [List.getElem?_take_of_lt hj8] at hj
    · rw [List.getElem?_eq_none (by rw [List.length_take]; omega)] at hj; cases hj
  have hs2 : 5 + cs.length ≤ (frcells ⟨fn, 0, 0, 0, path, List.replicate 8 0, [h0, h1, h2, h3]⟩ (.slice A' path.length c')).length := by
    have h9 : (frcells ⟨fn, 0, 0, 0, path, List.replicate 8 0, [h0, h1, h2, h3]⟩ (.slice A' path.length c')).length = 17 := rfl
    rw [h9, hcl]; have h9 : Nat.min args.length 8 ≤ 8 := Nat.min_le_right _ _; omega
  have hs3 : ∀ v ∈ cs, v.oneCell' = true := by
    intro v hv
    rw [HCS.out.1] at hv
    obtain ⟨x, _, rfl⟩ := List.mem_map.1 hv
    rfl
  have HS := Aside0.mk (And.intro hcl (And.intro hs1 (And.intro hs2 hs3)))
  clear hcs hcl hs1 hs2 hs3
  go_upto_region 3 with (first | (refine wpList_copy_splice rfl (.tmp 19) (.tmp 20) 34 34 rfl 2 Try.underlying34 (by kernel_rfl) (some ⟨fb, 5, none⟩) Aa 8 8 args.length ca rfl rfl fb 5 (frcells ⟨fn, 0, 0, 0, path, List.replicate 8 0, [h0, h1, h2, h3]⟩ (.slice A' path.length c')) 62 H2.out.2.1 cs HS.out.1 HS.out.2.1 HS.out.2.2.1 HS.out.2.2.2 fb W2 ((Below.refl W2.heap.size W2).mono (Nat.le_of_lt (blk_lt H2.out.2.1))) (Nat.le_refl _) ?_; intro W3 hn3 hb3; have H3 := Aside0.mk (And.intro hn3.out hb3); clear hn3 hb3) | fail)
  go_wp2_with fail
  go_ret
  have hn3 := H3.out.1
  rw [HCS.out.1] at hn3
  have e9 : splice (frcells ⟨fn, 0, 0, 0, path, List.replicate 8 0, [h0, h1, h2, h3]⟩ (.slice A' path.length c')) 5 ((args.take 8).map (Value.int .i64)) = frcells (newFr fn path args [h0, h1, h2, h3]) (.slice A' path.length c') := splice_fr _ _ rfl args
  rw [e9] at hn3
  have hPc : (Kd.int .i64).C W3 A' path.length path := by
    rcases HPP.out.2.2.2 with e | ⟨ad, e1, e2, e3⟩
    · subst e; exact ⟨rfl, by simp, fun hp => absurd hp (Nat.lt_irrefl 0)⟩
    · refine C_at (fun h => h) HPP.out.1 (fun ad' e => ?_)
      rw [e1] at e; cases e
      exact H3.out.2.block _ e3
  exact ⟨fb, A', c', rfl, H2.out.2.2, ⟨hn3, newRegsF_len args, rfl⟩, H2.out.1.trans (H3.out.2.mono H2.out.2.2), HPP.out.2.1, HPP.out.2.2.1, HPP.out.2.2.2, hPc⟩
end Go.Proofs.Ytcciejcpijlkfaa.H

set_option linter.unusedVariables false
set_option linter.unusedSimpArgs false
namespace Go.Proofs.Ytcciejcpijlkfaa.H
open Go.RowKit Go.Hay Go.Proofs.YtcciejcpijlkfaaW.PrintWords Go.Proofs.YtcciejcpijlkfaaW.PrintLast Go.Proofs.YtcciejcpijlkfaaW.PrintMore
theorem flatMap_piece {β : Type} {s : Nat} (f : β → List Value) : ∀ (ps : List β) (hf : ∀ p ∈ ps, (f p).length = s) (j : Nat) (h : j < ps.length), ((ps.flatMap f).drop (j * s)).take s = f ps[j]
  | p :: ps, hf, 0, _ => by
    rw [Nat.zero_mul, List.drop_zero, List.flatMap_cons]
    have := hf p (List.mem_cons_self ..)
    rw [← this, List.take_left]
    rfl
  | p :: ps, hf, j + 1, h => by
    have h1 := hf p (List.mem_cons_self ..)
    rw [List.flatMap_cons, show (j + 1) * s = (f p).length + j * s by rw [h1, Nat.succ_mul, Nat.add_comm], List.drop_length_add_append]
    exact flatMap_piece f ps (fun q hq => hf q (List.mem_cons_of_mem _ hq)) j (by simpa using h)
theorem reads_flat {α β : Type} {R : α → List Value → Prop} {s : Nat} {W : World} {b : Nat} {t : TypeId} {fr : Nat × Nat} (g : β → α) (f : β → List Value) (ps : List β) (hf : ∀ p ∈ ps, (f p).length = s) (hR : ∀ p ∈ ps, R (g p) (f p)) (h : W.heap[b]? = some (.cells (ps.flatMap f).toArray t fr)) (hm : ps.length ≤ 9223372036854775807) : ReadsRow R s W (some ⟨b, 0, none⟩) ps.length (ps.map g) := by
  have e : ps.length = (ps.map g).length := (List.length_map ..).symm
  rw [e]
  refine reads_cells h ⟨?_, fun j p hj => ?_⟩ (by rw [← e]; exact hm)
  · have e2 : (ps.flatMap f).length = ps.length * s := by
      clear h hm hR e
      induction ps with
      | nil => simp
      | cons p ps ih => rw [List.flatMap_cons, List.length_append, hf p (List.mem_cons_self ..), ih (fun q hq => hf q (List.mem_cons_of_mem _ hq)), List.length_cons, Nat.succ_mul, Nat.add_comm]
    rw [← e]
    exact e2
  · have hlt : j < ps.length := by have := (List.getElem?_eq_some_iff.1 hj).1; simpa using this
    rw [List.getElem?_map, List.getElem?_eq_getElem hlt] at hj
    have hj : g ps[j] = p := Option.some.inj hj
    show R p (((ps.flatMap f).toArray.toList.drop (j * s)).take s)
    rw [← hj]
    have := flatMap_piece f ps hf j hlt
    rw [show (ps.flatMap f).toArray.toList = ps.flatMap f from rfl, this]
    exact hR _ (List.getElem_mem _)
def icells (x : S65) : List Value := [.int .i64 x.f0, .int .i64 x.f1, .int .i64 x.f2, .int .i64 x.f3, .int .i64 x.f4]
theorem code_C {w : World} {b : Nat} {t : TypeId} {fr : Nat × Nat} (code : List S65) (h : w.heap[b]? = some (.cells (code.flatMap icells).toArray t fr)) (hm : code.length ≤ 9223372036854775807) : k65.C w (some ⟨b, 0, none⟩) code.length code := by
  have := reads_flat (R := k65.K w) (s := 5) id icells code (fun _ _ => rfl) (fun x _ => k65_mk w x) h hm
  rwa [List.map_id] at this
def fcells (p : S68 × Option Addr × Nat) : List Value := [.int .i64 p.1.f0, .slice p.2.1 p.1.f1.length p.2.2]
theorem prog_C {w : World} {b : Nat} {t : TypeId} {fr : Nat × Nat} (ps : List (S68 × Option Addr × Nat)) (h : w.heap[b]? = some (.cells (ps.flatMap fcells).toArray t fr)) (hm : ps.length ≤ 9223372036854775807) (hc : ∀ p ∈ ps, k65.C w p.2.1 p.1.f1.length p.1.f1 ∧ p.1.f1.length ≤ p.2.2) : k68.C w (some ⟨b, 0, none⟩) ps.length (ps.map fun p => p.1) :=
  reads_flat (R := k68.K w) (s := 2) (fun p : S68 × Option Addr × Nat => p.1) fcells ps (fun _ _ => rfl) (fun p hp => k68_mk w p.1 (hc p hp).2 (hc p hp).1) h hm
end Go.Proofs.Ytcciejcpijlkfaa.H

set_option linter.unusedVariables false
set_option linter.unusedSimpArgs false
namespace Go.Proofs.Ytcciejcpijlkfaa.H
open Go.RowKit Go.Hay Go.Proofs.YtcciejcpijlkfaaW.PrintWords Go.Proofs.YtcciejcpijlkfaaW.PrintLast Go.Proofs.YtcciejcpijlkfaaW.PrintMore
theorem ite_ind {α : Type} {P : α → Prop} {c : Prop} [Decidable c] {a b : α} (ha : P a) (hb : P b) : P (if c then a else b) := by
  split
  · exact ha
  · exact hb
def SameP (F : Fr) (r : Ef × Fr) : Prop := r.2.path = F.path ∧ r.2.steps = F.steps
theorem SameP.of {F : Fr} {e : Ef} {F1 : Fr} (h1 : F1.path = F.path) (h2 : F1.steps = F.steps) : SameP F (e, F1) := ⟨h1, h2⟩
theorem doF_path (l : List S68) (d : Int) (x : S65) (F : Fr) : SameP F (doF l d x F) := by
  have hb : ∀ k r h, SameP F (beginF l d x F k r h) := fun k r h => by
    unfold beginF
    exact ite_ind (.of rfl rfl) (.of rfl rfl)
  have hr : SameP F (match reckonP x.f0 (fR F x.f2) (fR F x.f3) with | some n => (efGoes, fSet F x.f1 n) | none => (efFails 1, F)) := by
    cases reckonP x.f0 (fR F x.f2) (fR F x.f3) <;> exact .of rfl rfl
  have hz : SameP F (efGoes, if fR F x.f1 = 0 then { F with at_ := x.f4 } else F) := by
    by_cases h : fR F x.f1 = 0
    · rw [if_pos h]; exact .of rfl rfl
    · rw [if_neg h]; exact .of rfl rfl
  unfold doF
  exact ite_ind (.of rfl rfl) (ite_ind (.of rfl rfl) (ite_ind hr (ite_ind (.of rfl rfl) (ite_ind hz (ite_ind (hb _ _ _) (ite_ind (.of rfl rfl) (ite_ind (hb _ _ _) (ite_ind (ite_ind (.of rfl rfl) (.of rfl rfl)) (ite_ind (.of rfl rfl) (ite_ind (.of rfl rfl) (.of rfl rfl)))))))))))
theorem execP_path (l : List S68) (b d : Int) (F : Fr) : (execP l b d F).2.2.path = F.path ∧ F.steps ≤ (execP l b d F).2.2.steps := by
  unfold execP
  by_cases h1 : frRight l b d = true
  · rw [if_pos h1]
    by_cases h2 : thereP l F = true
    · rw [if_pos h2]
      by_cases h3 : b ≤ F.steps
      · rw [if_pos h3]; exact ⟨rfl, Int.le_refl _⟩
      · rw [if_neg h3]
        obtain ⟨e1, e2⟩ := doF_path l d (instrF l F) (stepF F)
        exact ⟨e1, by show F.steps ≤ (doF l d (instrF l F) (stepF F)).2.steps; rw [e2]; show F.steps ≤ F.steps + 1; omega⟩
    · rw [if_neg h2]; exact ⟨rfl, Int.le_refl _⟩
  · rw [if_neg h1]; exact ⟨rfl, Int.le_refl _⟩
structure LF (fb : Nat) (F : Fr) (Ap : Option Addr) (cp : Nat) (w : World) : Prop where
  fr : FB fb F (.slice Ap F.path.length cp) w
  pc : F.path.length ≤ cp
  pn : Ap = none → cp = 0
  pne : F.path = [] ∨ ∃ ad, Ap = some ad ∧ ad.block ≠ fb
  pC : (Kd.int .i64).C w Ap F.path.length F.path
  st : -9223372036854775808 ≤ F.steps
section
variable {fb : Nat} {F : Fr} {Ap : Option Addr} {cp : Nat} {w w1 : World}
theorem LF.keepC (h : LF fb F Ap cp w) (hk : Keep (fun q => q = fb) w w1) : (Kd.int .i64).C w1 Ap F.path.length F.path := by
  rcases h.pne with e | ⟨ad, rfl, hne⟩
  · rw [e]; exact ⟨rfl, by simp, fun hp => absurd hp (Nat.lt_irrefl 0)⟩
  · by_cases he : F.path = []
    · rw [he]; exact ⟨rfl, by simp, fun hp => absurd hp (Nat.lt_irrefl 0)⟩
    · refine C_at (fun h => h) h.pC (fun ad' e => ?_)
      cases e
      obtain ⟨ad', e, hx⟩ := h.pC.2.2 (List.length_pos_iff.2 he)
      cases e
      refine hk.block _ ?_ hne
      obtain ⟨p, hp⟩ : ∃ p, F.path[0]? = some p := ⟨_, List.getElem?_eq_getElem (List.length_pos_iff.2 he)⟩
      obtain ⟨cs, h1, h2, h3⟩ := hx 0 p hp
      have h2 : cs = [.int .i64 p] := h2
      subst h2
      have h4 := World.block_lt_of_cell? _ _ (h3 0 _ rfl)
      rwa [add_block] at h4
theorem LF.below (h : LF fb F Ap cp w) (hb : Below w.heap.size w w1) : LF fb F Ap cp w1 := ⟨h.fr.below hb, h.pc, h.pn, h.pne, Kd.C_below h.pC hb, h.st⟩
theorem LF.next (h : LF fb F Ap cp w) {F1 : Fr} (hF : FB fb F1 (.slice Ap F.path.length cp) w1) (hp : F1.path = F.path) (hst : F.steps ≤ F1.steps) (hk : Keep (fun q => q = fb) w w1) : LF fb F1 Ap cp w1 :=
  ⟨by rw [hp]; exact hF, by rw [hp]; exact h.pc, h.pn, by rw [hp]; exact h.pne, by rw [hp]; exact h.keepC hk, Int.le_trans h.st hst⟩
def ProgK (fb : Nat) (w : World) (A : Option Addr) (l : List S68) : Prop := ∀ w', Keep (fun q => q = fb) w w' → k68.C w' A l.length l
theorem ProgK.next {A : Option Addr} {l : List S68} (h : ProgK fb w A l) (hk : Keep (fun q => q = fb) w w1) : ProgK fb w1 A l := fun w' hk' => h w' (hk.trans hk')
theorem ProgK.old {w0 : World} {A : Option Addr} {l : List S68} (h : k68.C w0 A l.length l) (hb : Below w0.heap.size w0 w) (hf : w0.heap.size ≤ fb) : ProgK fb w A l := fun w' hk => Kd.C_below h (hb.trans (hk.below hb.size (fun q hq e => by omega)))
theorem exec_any {A : Option Addr} {c : Nat} {l : List S68} {b d : Int} (hC : ProgK fb w A l) (hc : l.length ≤ c) (h : LF fb F Ap cp w) :
    Calls Try.prog 11 #[.slice A l.length c, .agg #[.int .i64 b, .int .i64 d], .pointer (some ⟨fb, 0, none⟩)] w fun x w' =>
      ∃ Aa ca Ab cb, x = .returned (.tuple #[efV (execP l b d F).1 Aa ca Ab cb, .int .i64 (execP l b d F).2.1]) ∧ EfC w.heap.size w' (execP l b d F).1 Aa ca Ab cb ∧ LF fb (execP l b d F).2.2 Ap cp w' ∧ Keep (fun q => q = fb) w w' := by
  refine (Exec_any (b := b) (d := d) hC hc (fun w' hk => h.keepC hk) h.pc h.pn h.fr h.st).mono ?_
  rintro e w' ⟨Aa, ca, Ab, cb, rfl, hE, hF, hk⟩
  exact ⟨Aa, ca, Ab, cb, rfl, hE, h.next hF (execP_path l b d F).1 (execP_path l b d F).2 hk, hk⟩
theorem NewP.live {F : Fr} {x : Ending} {w' : World} (hst : -9223372036854775808 ≤ F.steps) (h : NewP F w x w') : ∃ fb Ap cp, x = .returned (.pointer (some ⟨fb, 0, none⟩)) ∧ w.heap.size ≤ fb ∧ LF fb F Ap cp w' ∧ Below w.heap.size w w' := by
  obtain ⟨fb, Ap, cp, e, h1, h2, h3, h4, h5, h6, h7⟩ := h
  exact ⟨fb, Ap, cp, e, h1, ⟨h2, h4, h5, h6.imp id (fun ⟨ad, e1, e2, e3⟩ => ⟨ad, e1, by omega⟩), h7, hst⟩, h3⟩
end
end Go.Proofs.Ytcciejcpijlkfaa.H

set_option linter.unusedVariables false
set_option linter.unusedSimpArgs false
namespace Go.Proofs.Ytcciejcpijlkfaa.H
open Go.RowKit Go.Hay Go.Proofs.YtcciejcpijlkfaaW.PrintWords Go.Proofs.YtcciejcpijlkfaaW.PrintLast Go.Proofs.YtcciejcpijlkfaaW.PrintMore
set_option maxRecDepth 100000 in
theorem peq_some (a : Addr) (w : World) : (binOp .eql 31 (.pointer (some a)) (.pointer none)).run Try.prog w = .ok (.bool false) w := rfl
/-- what stays right between two calls of Exec: the program, the limits' box, the frame. -/
structure Liv (w : World) (fb : Nat) (F : Fr) (Ap : Option Addr) (cp : Nat) (A : Option Addr) (l : List S68) (bl : Nat) (b d : Int) (W : World) : Prop where
  below : Below w.heap.size w W
  pg : ProgK fb W A l
  lim : W.heap[bl]? = some (.cells #[.int .i64 b, .int .i64 d] 43 (0, 0))
  blf : bl ≠ fb
  lo : w.heap.size ≤ fb
  lf : LF fb F Ap cp W
section
variable {w W W1 : World} {fb : Nat} {F F1 : Fr} {Ap : Option Addr} {cp : Nat} {A : Option Addr} {l : List S68} {bl : Nat} {b d : Int}
theorem Liv.next (h : Liv w fb F Ap cp A l bl b d W) (hL : LF fb F1 Ap cp W1) (hk : Keep (fun q => q = fb) W W1) : Liv w fb F1 Ap cp A l bl b d W1 :=
  ⟨h.below.trans (hk.below h.below.size (fun q hq e => by have := h.lo; omega)), h.pg.next hk, hk.blk h.lim h.blf, h.blf, h.lo, hL⟩
theorem Liv.below2 (h : Liv w fb F Ap cp A l bl b d W) (hb : Below W.heap.size W W1) : Liv w fb F Ap cp A l bl b d W1 :=
  h.next (h.lf.below hb) (Keep.of_below hb _)
end
theorem calls_at {P : Program} {f : FuncId} {args : Array Value} {w w1 : World} {Q : Ending → World → Prop} (h : Calls P f args w1 Q) (e : w = w1) : Calls P f args w Q := e ▸ h
def exF : List S68 := [⟨0, [⟨1, 1, 0, 0, 7⟩, ⟨15, 1, 0, 0, 0⟩, ⟨17, 1, 0, 0, 0⟩]⟩]
def exF0 : Fr := newFr 0 [] [] [0, 0, 0, 0]
def exF1 : Fr := ⟨0, 1, 1, 0, [], [0, 7, 0, 0, 0, 0, 0, 0], [0, 0, 0, 0]⟩
def exF2 : Fr := ⟨0, 2, 2, 0, [], [0, 7, 0, 0, 0, 0, 0, 0], [0, 0, 0, 0]⟩
def exF3 : Fr := ⟨0, 3, 3, 0, [], [0, 7, 0, 0, 0, 0, 0, 0], [0, 0, 0, 0]⟩
theorem exF_1 : execP exF 9 0 exF0 = (efGoes, 0, exF1) := by kernel_rfl
theorem exF_2 : execP exF 9 0 exF1 = (⟨2, 7, 0, 0, 0, 0, [], []⟩, 0, exF2) := by kernel_rfl
theorem exF_3 : execP exF 9 0 exF2 = (⟨7, 0, 1, 0, 0, 0, [], []⟩, 0, exF3) := by kernel_rfl
/-- a program of one function, newly written. -/
theorem prog1F (w : World) (f : S68) (hf : f.f1.length ≤ 1000) {W : World} (hW : W = (w.alloc (.cells (f.f1.flatMap icells).toArray 65)).alloc (.cells #[.int .i64 f.f0, .slice (some ⟨w.heap.size, 0, none⟩) f.f1.length f.f1.length] 68)) :
    Below w.heap.size w W ∧ k68.C W (some ⟨w.heap.size + 1, 0, none⟩) 1 [f] ∧ W.heap.size = w.heap.size + 1 + 1 := by
  have e1 : (w.alloc (.cells (f.f1.flatMap icells).toArray 65)).heap.size = w.heap.size + 1 := Array.size_push _
  have e2 : ((w.alloc (.cells (f.f1.flatMap icells).toArray 65)).alloc (.cells #[.int .i64 f.f0, .slice (some ⟨w.heap.size, 0, none⟩) f.f1.length f.f1.length] 68)).heap.size = w.heap.size + 1 + 1 := by rw [← e1]; exact Array.size_push _
  have b1 := (Below.refl w.heap.size w).alloc (Nat.le_refl _) (.cells (f.f1.flatMap icells).toArray 65)
  have b2 := b1.alloc b1.size (.cells #[.int .i64 f.f0, .slice (some ⟨w.heap.size, 0, none⟩) f.f1.length f.f1.length] 68)
  have h1 : W.heap[w.heap.size]? = some (.cells (f.f1.flatMap icells).toArray 65 (0, 0)) := by rw [hW]; exact blk_alloc (alloc_blk w _) _
  have h2 : W.heap[w.heap.size + 1]? = some (.cells (([(f, some ⟨w.heap.size, 0, none⟩, f.f1.length)] : List (S68 × Option Addr × Nat)).flatMap fcells).toArray 68 (0, 0)) := by
    have := alloc_blk (w.alloc (.cells (f.f1.flatMap icells).toArray 65)) (.cells #[.int .i64 f.f0, .slice (some ⟨w.heap.size, 0, none⟩) f.f1.length f.f1.length] 68)
    rw [e1] at this
    rw [hW]; exact this
  refine ⟨by rw [hW]; exact b2, prog_C [(f, some ⟨w.heap.size, 0, none⟩, f.f1.length)] h2 (by simp) (fun p hp => ?_), by rw [hW]; exact e2⟩
  obtain rfl := List.mem_singleton.1 hp
  exact ⟨code_C _ h1 (by show f.f1.length ≤ _; omega), Nat.le_refl _⟩
set_option maxRecDepth 100000 in
set_option maxHeartbeats 8000000 in
theorem awake_any (w : World) : Calls Try.prog 16 #[] w fun e w' => e = .returned (.bool true) ∧ Below w.heap.size w w' := by
  have hpe := peq_some
  obtain ⟨W, hW⟩ : ∃ W, W = (w.alloc (.cells (([⟨1, 1, 0, 0, 7⟩, ⟨15, 1, 0, 0, 0⟩, ⟨17, 1, 0, 0, 0⟩] : List S65).flatMap icells).toArray 65)).alloc (.cells #[.int .i64 0, .slice (some ⟨w.heap.size, 0, none⟩) 3 3] 68) := ⟨_, rfl⟩
  obtain ⟨hb1, hP, hsz⟩ := prog1F w ⟨0, [⟨1, 1, 0, 0, 7⟩, ⟨15, 1, 0, 0, 0⟩, ⟨17, 1, 0, 0, 0⟩]⟩ (by decide) hW
  obtain ⟨bl, hbl⟩ : ∃ bl, bl = W.heap.size := ⟨_, rfl⟩
  obtain ⟨W1, hW1⟩ : ∃ W1, W1 = W.alloc (.cells #[.int .i64 9, .int .i64 0] 43) := ⟨_, rfl⟩
  have hb2 : Below W.heap.size W W1 := by rw [hW1]; exact (Below.refl W.heap.size W).alloc (Nat.le_refl _) _
  have hl1 : W1.heap[bl]? = some (.cells #[.int .i64 9, .int .i64 0] 43 (0, 0)) := by rw [hW1, hbl]; exact alloc_blk W _
  have hb12 := hb1.trans (hb2.mono hb1.size)
  have HW := Aside0.mk (And.intro hW (And.intro hW1 (And.intro hbl hsz)))
  have H1 := Aside0.mk (And.intro hb12 (And.intro (Kd.C_below hP hb2) hl1))
  have hnew := New_any 0 none 0 [] none 0 [] 0 0 0 0 W1 (Kd.C_nil _ _) (Nat.le_refl _) (fun _ => rfl) (by simp) (Kd.C_nil _ _) (Nat.le_refl _)
  have HN := Aside0.mk hnew
  clear hW hb1 hP hW1 hbl hb2 hl1 hb12 hsz hnew
  go_enter Try.func16, Try.ntmps16
  go_wp2_with fail
  refine (calls_at HN.out (by rw [HW.out.2.1, HW.out.1]; rfl)).mono ?_
  intro e W2 hp
  obtain ⟨fb, Ap, cp, rfl, hfb, hL, hb3⟩ := hp.live (by decide)
  have HL := Aside0.mk hL
  have HB := Aside0.mk (H1.out.1.trans (hb3.mono H1.out.1.size))
  have hK : ProgK fb W2 (some ⟨w.heap.size + 1, 0, none⟩) exF := ProgK.old H1.out.2.1 hb3 hfb
  have hbx := (hb3.block _ (blk_lt H1.out.2.2)).trans H1.out.2.2
  have hblf : bl ≠ fb := by have := blk_lt H1.out.2.2; omega
  have HV := Aside0.mk (show Liv w fb exF0 Ap cp (some ⟨w.heap.size + 1, 0, none⟩) exF bl 9 0 W2 from ⟨HB.out, hK, hbx, hblf, Nat.le_trans H1.out.1.size hfb, hL⟩)
  have hblw : bl = w.heap.size + 1 + 1 := HW.out.2.2.1.trans HW.out.2.2.2
  subst hblw
  clear hp hL hfb hb3 hK hblf HN
  have y0 := blk_cell hbx 0
  have y1 := blk_cell hbx 1
  clear hbx
  go_wp2_with fail
  refine (exec_any (b := 9) (d := 0) HV.out.pg (Nat.le_refl _) HV.out.lf).mono ?_
  rw [exF_1]
  rintro e w3 ⟨Aa, ca, Ab, cb, rfl, hE, hL, hk⟩
  have HV := Aside0.mk (HV.out.next hL hk)
  have HKK := Aside0.mk hk
  unfold efV
  dsimp only [efGoes, List.length_nil]
  obtain ⟨b1, hbb⟩ : ∃ b1, b1 = w3.heap.size := ⟨_, rfl⟩
  obtain ⟨W4, hW4⟩ : ∃ W4, W4 = w3.alloc (.cells #[.int .i64 1, .int .i64 0, .int .i64 0, .int .i64 0, .int .i64 0, .int .i64 0, .slice Aa 0 ca, .slice Ab 0 cb] 36) := ⟨_, rfl⟩
  have hb4 : Below w3.heap.size w3 W4 := by rw [hW4]; exact (Below.refl w3.heap.size w3).alloc (Nat.le_refl _) _
  have hx4 : W4.heap[b1]? = some (.cells #[.int .i64 1, .int .i64 0, .int .i64 0, .int .i64 0, .int .i64 0, .int .i64 0, .slice Aa 0 ca, .slice Ab 0 cb] 36 (0, 0)) := by rw [hW4, hbb]; exact alloc_blk w3 _
  have HW4 := Aside0.mk (And.intro hW4 hbb)
  have HX1 := Aside0.mk (And.intro hx4 (show b1 ≠ fb by have := HV.out.lf.fr.lt; omega))
  have HB4 := Aside0.mk hb4
  have HV := Aside0.mk (HV.out.below2 hb4)
  clear y0 y1 hE hL hk hW4 hbb hb4 hx4
  go_upto_region 7 with (fail)
  rw [← HW4.out.1, ← HW4.out.2]
  have y0 := blk_cell HV.out.lim 0
  have y1 := blk_cell HV.out.lim 1
  go_wp2_with fail
  refine (exec_any (b := 9) (d := 0) HV.out.pg (Nat.le_refl _) HV.out.lf).mono ?_
  rw [exF_2]
  rintro e w3 ⟨Aa, ca, Ab, cb, rfl, hE, hL, hk⟩
  have HV := Aside0.mk (HV.out.next hL hk)
  have HKK := Aside0.mk hk
  unfold efV
  dsimp only [efGoes, List.length_nil]
  obtain ⟨b2, hbb⟩ : ∃ b2, b2 = w3.heap.size := ⟨_, rfl⟩
  obtain ⟨W4, hW4⟩ : ∃ W4, W4 = w3.alloc (.cells #[.int .i64 2, .int .i64 7, .int .i64 0, .int .i64 0, .int .i64 0, .int .i64 0, .slice Aa 0 ca, .slice Ab 0 cb] 36) := ⟨_, rfl⟩
  have hb4 : Below w3.heap.size w3 W4 := by rw [hW4]; exact (Below.refl w3.heap.size w3).alloc (Nat.le_refl _) _
  have hx4 : W4.heap[b2]? = some (.cells #[.int .i64 2, .int .i64 7, .int .i64 0, .int .i64 0, .int .i64 0, .int .i64 0, .slice Aa 0 ca, .slice Ab 0 cb] 36 (0, 0)) := by rw [hW4, hbb]; exact alloc_blk w3 _
  have HW4 := Aside0.mk (And.intro hW4 hbb)
  have HX2 := Aside0.mk (And.intro hx4 (show b2 ≠ fb by have := HV.out.lf.fr.lt; omega))
  have HB4 := Aside0.mk hb4
  have HV := Aside0.mk (HV.out.below2 hb4)
  clear y0 y1 hE hL hk hW4 hbb hb4 hx4
  go_upto_region 8 with (fail)
  rw [← HW4.out.1, ← HW4.out.2]
  have HX1 := Aside0.mk (And.intro ((HB4.out.block _ (Nat.lt_of_lt_of_le (blk_lt HX1.out.1) HKK.out.size)).trans (HKK.out.blk HX1.out.1 HX1.out.2)) HX1.out.2)
  have y0 := blk_cell HV.out.lim 0
  have y1 := blk_cell HV.out.lim 1
  go_wp2_with fail
  refine (exec_any (b := 9) (d := 0) HV.out.pg (Nat.le_refl _) HV.out.lf).mono ?_
  rw [exF_3]
  rintro e w3 ⟨Aa, ca, Ab, cb, rfl, hE, hL, hk⟩
  have HV := Aside0.mk (HV.out.next hL hk)
  have HKK := Aside0.mk hk
  unfold efV
  dsimp only [efGoes, List.length_nil]
  obtain ⟨b3, hbb⟩ : ∃ b3, b3 = w3.heap.size := ⟨_, rfl⟩
  obtain ⟨W4, hW4⟩ : ∃ W4, W4 = w3.alloc (.cells #[.int .i64 7, .int .i64 0, .int .i64 1, .int .i64 0, .int .i64 0, .int .i64 0, .slice Aa 0 ca, .slice Ab 0 cb] 36) := ⟨_, rfl⟩
  have hb4 : Below w3.heap.size w3 W4 := by rw [hW4]; exact (Below.refl w3.heap.size w3).alloc (Nat.le_refl _) _
  have hx4 : W4.heap[b3]? = some (.cells #[.int .i64 7, .int .i64 0, .int .i64 1, .int .i64 0, .int .i64 0, .int .i64 0, .slice Aa 0 ca, .slice Ab 0 cb] 36 (0, 0)) := by rw [hW4, hbb]; exact alloc_blk w3 _
  have HW4 := Aside0.mk (And.intro hW4 hbb)
  have HX3 := Aside0.mk (And.intro hx4 (show b3 ≠ fb by have := HV.out.lf.fr.lt; omega))
  have HB4 := Aside0.mk hb4
  have HV := Aside0.mk (HV.out.below2 hb4)
  clear y0 y1 hE hL hk hW4 hbb hb4 hx4
  go_upto_region 9 with (fail)
  rw [← HW4.out.1, ← HW4.out.2]
  have HX1 := Aside0.mk ((HB4.out.block _ (Nat.lt_of_lt_of_le (blk_lt HX1.out.1) HKK.out.size)).trans (HKK.out.blk HX1.out.1 HX1.out.2))
  have HX2 := Aside0.mk ((HB4.out.block _ (Nat.lt_of_lt_of_le (blk_lt HX2.out.1) HKK.out.size)).trans (HKK.out.blk HX2.out.1 HX2.out.2))
  have p0 := blk_cell HX1.out 0
  have q0 := blk_cell HX2.out 0
  have q1 := blk_cell HX2.out 1
  have r0 := blk_cell HX3.out.1 0
  have r2 := blk_cell HX3.out.1 2
  have t2 : W4.cell? ⟨fb, 2, none⟩ = some (.int .i64 3) := HV.out.lf.fr.fix.2.2.1
  go_wp2_with fail
  go_ret
  exact ⟨rfl, HV.out.below⟩
end Go.Proofs.Ytcciejcpijlkfaa.H

set_option linter.unusedVariables false
set_option linter.unusedSimpArgs false
namespace Go.Proofs.Ytcciejcpijlkfaa.H
open Go.RowKit Go.Hay Go.Proofs.YtcciejcpijlkfaaW.PrintWords Go.Proofs.YtcciejcpijlkfaaW.PrintLast Go.Proofs.YtcciejcpijlkfaaW.PrintMore
theorem infoI : (Try.prog.info? 65).map (fun i => (i.zero, i.size, i.bytes)) = some (some (.agg #[.int .i64 0, .int .i64 0, .int .i64 0, .int .i64 0, .int .i64 0]), 5, 40) := by kernel_rfl
/-- a row of instructions, newly written. -/
theorem code_R (W : World) (xs : List S65) (hl : xs.length ≤ 1000) : k65.R 65 (W.alloc (.cells (xs.flatMap icells).toArray 65)) W.heap.size (fun _ => True) (.slice (some ⟨W.heap.size, 0, none⟩) xs.length xs.length) xs := by
  have hlen : (xs.flatMap icells).length = xs.length * 5 := by
    clear hl
    induction xs with
    | nil => rfl
    | cons x xs ih => rw [List.flatMap_cons, List.length_append, ih, List.length_cons, Nat.succ_mul, Nat.add_comm]; rfl
  refine ⟨fun _ _ => trivial, xs.flatMap icells, ?_, ⟨hlen, fun j p hj => ?_⟩⟩
  · have h2 := World.ownsRow_lit (base := W.heap.size) (e := 65) (size := k65.sz) W (xs.flatMap icells).toArray xs.length (Nat.le_refl _) (by unfold maxLen; omega) (show (xs.flatMap icells).toArray.size = xs.length * 5 from hlen)
    simpa using h2
  · have hlt : j < xs.length := (List.getElem?_eq_some_iff.1 hj).1
    rw [List.getElem?_eq_getElem hlt] at hj
    have hj : xs[j] = p := Option.some.inj hj
    subst hj
    have := flatMap_piece (s := 5) icells xs (fun _ _ => rfl) j hlt
    show k65.M _ _ _ _ (((xs.flatMap icells).drop (j * 5)).take 5)
    rw [this]
    exact k65_mkM _ _ _ _
end Go.Proofs.Ytcciejcpijlkfaa.H

set_option linter.unusedVariables false
set_option linter.unusedSimpArgs false
namespace Go.Proofs.Ytcciejcpijlkfaa.H
open Go.RowKit Go.Hay Go.Proofs.YtcciejcpijlkfaaW.PrintWords Go.Proofs.YtcciejcpijlkfaaW.PrintLast Go.Proofs.YtcciejcpijlkfaaW.PrintMore
def retI : S65 := ⟨17, 0, 0, 0, 0⟩
def jmpI (jump : Bool) (t : Int) : S65 := if jump = true then ⟨9, 0, 0, 0, t⟩ else ⟨10, 3, 0, 0, t⟩
def jmpC (jump : Bool) (t : Int) (k : Nat) : List S65 := jmpI jump t :: List.replicate (k - 1) retI
theorem instrsE_rets (lc : Nat) (l : List S68) : ∀ (n i : Nat), instrsE lc l i (List.replicate n retI) = none
  | 0, i => rfl
  | n + 1, i => by
    rw [List.replicate_succ, instrsE]
    have e : instrE lc l retI = none := rfl
    rw [e]
    exact instrsE_rets lc l n (i + 1)
theorem jmpI_ok (jump : Bool) (t : Nat) (k : Nat) (l : List S68) (ht : t < k) : instrE k l (jmpI jump t) = none := by
  have h5 : fieldE l.length k (t : Int) 5 = none := by
    have e : inB 0 k (t : Int) = true := by simp [inB]; omega
    simp [fieldE, e]
  cases jump with
  | true =>
    show ((fieldE l.length k 0 0).or ((fieldE l.length k 0 0).or ((fieldE l.length k 0 0).or ((fieldE l.length k (t : Int) 5).or (arityE l ⟨9, 0, 0, 0, t⟩ 0))))) = none
    rw [h5]; rfl
  | false =>
    show ((fieldE l.length k 3 1).or ((fieldE l.length k 0 0).or ((fieldE l.length k 0 0).or ((fieldE l.length k (t : Int) 5).or (arityE l ⟨10, 3, 0, 0, t⟩ 0))))) = none
    rw [h5]; rfl
theorem jmp_check (jump : Bool) (t k : Nat) (ht : t < k) (hk : 2 ≤ k ∧ k ≤ 61) : (checkP [⟨4, jmpC jump t k⟩]).2.2 = 0 := by
  have hlen : (jmpC jump t k).length = k := by simp [jmpC]; omega
  have hlast : rd_T65 (jmpC jump t k) (((jmpC jump t k).length : Int) - 1) = retI := by
    rw [hlen]
    unfold rd_T65
    obtain ⟨m, rfl⟩ : ∃ m, k = m + 2 := ⟨k - 2, by omega⟩
    have e1 : (((m + 2 : Nat) : Int) - 1).toNat = m + 1 := by omega
    rw [e1]
    simp [jmpC]
  unfold checkP
  rw [if_pos (by simp)]
  simp only [funcsE, funcE]
  rw [if_pos (by decide), if_pos (by rw [hlen]; omega), hlen]
  have e1 : instrsE k [⟨4, jmpC jump t k⟩] 0 (jmpC jump t k) = none := by
    have : jmpC jump t k = jmpI jump t :: List.replicate (k - 1) retI := rfl
    rw [this, instrsE, jmpI_ok jump t k _ ht]
    exact instrsE_rets _ _ _ _
  have e2 : lastE (⟨4, jmpC jump t k⟩ : S68) = none := by
    unfold lastE
    simp only
    rw [hlast]; rfl
  rw [e1, e2]; rfl
def jmpF0 (n : Int) : Fr := newFr 0 [] [0, 0, 0, n] [0, 0, 0, 0]
theorem jmp_exec (jump : Bool) (t k : Nat) (n : Int) (ht : t < k) (hk : 2 ≤ k ∧ k ≤ 61) :
    ∃ F1, execP [⟨4, jmpC jump t k⟩] 9 0 (jmpF0 n) = (efGoes, 0, F1) ∧ F1.at_ = (if jump = true ∨ n = 0 then (t : Int) else 1) ∧ F1.steps = 1 := by
  have hc := jmp_check jump t k ht hk
  have hlen : (jmpC jump t k).length = k := by simp [jmpC]; omega
  have hr : frRight [⟨4, jmpC jump t k⟩] 9 0 = true := by unfold frRight; exact decide_eq_true ⟨hc, by omega, by omega⟩
  have hth : thereP [⟨4, jmpC jump t k⟩] (jmpF0 n) = true := by
    unfold thereP
    refine decide_eq_true ⟨⟨Int.le_refl _, (by decide : (0 : Int) < ((1 : Nat) : Int))⟩, Int.le_refl _, ?_⟩
    show (0 : Int) < ((jmpC jump t k).length : Nat)
    rw [hlen]; omega
  have hi : instrF [⟨4, jmpC jump t k⟩] (jmpF0 n) = jmpI jump t := rfl
  unfold execP
  rw [if_pos hr, if_pos hth, if_neg (by show ¬ (9 : Int) ≤ 0; decide), hi]
  cases jump with
  | true => exact ⟨_, rfl, by simp; rfl, rfl⟩
  | false =>
    by_cases hn : n = 0
    · subst hn; exact ⟨_, rfl, rfl, rfl⟩
    · refine ⟨_, rfl, ?_, ?_⟩
      · show (if fR (stepF (jmpF0 n)) 3 = 0 then _ else stepF (jmpF0 n) : Fr).at_ = _
        have e : fR (stepF (jmpF0 n)) 3 = n := rfl
        rw [e, if_neg hn, if_neg (by simp [hn])]; rfl
      · show (if fR (stepF (jmpF0 n)) 3 = 0 then _ else stepF (jmpF0 n) : Fr).steps = _
        have e : fR (stepF (jmpF0 n)) 3 = n := rfl
        rw [e, if_neg hn]; rfl
/-- a row of instructions is appended, and may be appended to again. -/
theorem wpList_codesR {ops : Array Oper} {rest : List Oper} {o : Oper} {a : Act} {Q : Exit → Act → World → Prop} (hgd : o.guard = none) (s x : Operand)
    (ho : o.op = .call { callee := .builtin .append, args := #[s, x], argTypes := #[66, 66] }) {w W : World} {b0 : Nat} {v : Value} (xs ys : List S65) (hb : Below w.heap.size w W) (hw : w.heap.size ≤ b0) (hR : k65.R 65 W b0 (fun _ => True) v xs) (hbW : b0 ≤ W.heap.size) (hl : xs.length + ys.length ≤ 1000)
    (hs : a.eval s = v) (bk : Nat) (hbk : W.heap.size = bk) (hx : a.eval x = .slice (some ⟨bk, 0, none⟩) ys.length ys.length)
    (h : ∀ A9 c9 w9, Below w.heap.size w w9 → k65.R 65 w9 b0 (fun _ => True) (.slice A9 (xs ++ ys).length c9) (xs ++ ys) → b0 ≤ w9.heap.size → wpList Try.prog ops Q rest (a.put o.dst (.slice A9 (xs ++ ys).length c9)) w9) :
    wpList Try.prog ops Q (o :: rest) a (W.alloc (.cells (ys.flatMap icells).toArray 65)) := by
  subst hbk
  have hba : Below W.heap.size W (W.alloc (.cells (ys.flatMap icells).toArray 65)) := (Below.refl _ _).alloc (Nat.le_refl _) _
  have hR2 : k65.R 65 (W.alloc (.cells (ys.flatMap icells).toArray 65)) b0 (fun _ => True) v xs := Kd.R_alloc hR _
  have hy := reads_flat (W := W.alloc (.cells (ys.flatMap icells).toArray 65)) (b := W.heap.size) (t := 65) (fr := (0, 0)) (R := k65.M (W.alloc (.cells (ys.flatMap icells).toArray 65)) b0 (fun _ => False)) (s := 5) id icells ys (fun _ _ => rfl) (fun x _ => k65_mkM _ _ _ x) (alloc_blk W _) (by omega)
  rw [List.map_id] at hy
  refine wpList_plain hgd (fun K hK => ?_)
  refine wp_append_rows k65 (Rr := k65.M (W.alloc (.cells (ys.flatMap icells).toArray 65)) b0 (fun _ => False)) b0 hgd s x 66 65 (.agg #[.int .i64 0, .int .i64 0, .int .i64 0, .int .i64 0, .int .i64 0]) 40 ho Try.underlying66 infoI rfl (by decide) (by decide) v xs ys _ _ _ (fun _ => True) (fun _ => False) hs hx hR2 hy (fun _ _ h => h) (fun _ h => h.elim) (fun _ _ => trivial) (Nat.le_trans hbW hba.size) (by omega) ?_
  intro v9 w9 hR9 hbw hgr hat
  obtain ⟨A9, c9, rfl⟩ := Kd.R_slice hR9
  exact hK _ _ (h A9 c9 w9 ((hb.trans (hba.mono hb.size)).trans (hbw.mono hw)) hR9 (Nat.le_trans (Nat.le_trans hbW hba.size) hbw.size))
theorem jmpC_len (jump : Bool) (t : Int) (i : Nat) : (jmpC jump t (i + 1)).length = i + 1 := by simp [jmpC]
theorem jmpC_next (jump : Bool) (t : Int) (i : Nat) : jmpC jump t (i + 1) ++ [retI] = jmpC jump t (i + 1 + 1) := by
  show jmpI jump t :: (List.replicate i retI ++ [retI]) = jmpI jump t :: List.replicate (i + 1) retI
  rw [List.replicate_succ']
/-- the code under construction. -/
structure JmpW (w : World) (jump : Bool) (t : Int) (i : Nat) (A : Option Addr) (c : Nat) (W : World) : Prop where
  below : Below w.heap.size w W
  row : ∃ b0, w.heap.size ≤ b0 ∧ b0 ≤ W.heap.size ∧ k65.R 65 W b0 (fun _ => True) (.slice A (i + 1) c) (jmpC jump t (i + 1))
theorem jmpW_start {w W1 : World} (jump : Bool) (t : Int) (hb : Below w.heap.size w W1) {W : World} {A : Option Addr} (hA : A = some ⟨W1.heap.size + 1, 0, none⟩)
    (hW : W = (W1.alloc (.cells (icells (jmpI jump t)).toArray 65)).alloc (.cells (([jmpI jump t] : List S65).flatMap icells).toArray 65)) : JmpW w jump t 0 A 1 W := by
  have e1 : (W1.alloc (.cells (icells (jmpI jump t)).toArray 65)).heap.size = W1.heap.size + 1 := Array.size_push _
  have b1 := hb.alloc hb.size (.cells (icells (jmpI jump t)).toArray 65)
  have b2 := b1.alloc b1.size (.cells (([jmpI jump t] : List S65).flatMap icells).toArray 65)
  have h := code_R (W1.alloc (.cells (icells (jmpI jump t)).toArray 65)) [jmpI jump t] (by simp)
  rw [← hW] at h b2
  refine ⟨b2, _, b1.size, ?_, ?_⟩
  · rw [hW]; exact Nat.le_of_lt (by rw [show ((W1.alloc (.cells (icells (jmpI jump t)).toArray 65)).alloc (.cells (([jmpI jump t] : List S65).flatMap icells).toArray 65)).heap.size = _ from Array.size_push _]; exact Nat.lt_succ_self _)
  · rw [hA, ← e1]; exact h
/-- a program of one function, whose code was written before. -/
theorem prog1K {w0 W : World} {fb : Nat} (f : S68) {A : Option Addr} {c : Nat} (hC : k65.C w0 A f.f1.length f.f1) (hc : f.f1.length ≤ c) (hb : Below w0.heap.size w0 W) (hfb : w0.heap.size ≤ fb) (hlt : fb < W.heap.size) {W4 : World} (hW : W4 = W.alloc (.cells #[.int .i64 f.f0, .slice A f.f1.length c] 68)) : Below W.heap.size W W4 ∧ ProgK fb W4 (some ⟨W.heap.size, 0, none⟩) [f] := by
  have b1 : Below W.heap.size W W4 := by rw [hW]; exact (Below.refl W.heap.size W).alloc (Nat.le_refl _) _
  have h4 : W4.heap[W.heap.size]? = some (.cells (([(f, A, c)] : List (S68 × Option Addr × Nat)).flatMap fcells).toArray 68 (0, 0)) := by rw [hW]; exact alloc_blk W _
  have b2 := hb.trans (b1.mono hb.size)
  refine ⟨b1, fun w' hk => ?_⟩
  refine prog_C [(f, A, c)] (hk.blk h4 (by omega)) (by simp) (fun p hp => ?_)
  obtain rfl := List.mem_singleton.1 hp
  exact ⟨Kd.C_below hC (b2.trans (hk.below b2.size (fun q hq e => by omega))), hc⟩
end Go.Proofs.Ytcciejcpijlkfaa.H

set_option linter.unusedVariables false
set_option linter.unusedSimpArgs false
namespace Go.Proofs.Ytcciejcpijlkfaa.H
open Go.RowKit Go.Hay Go.Proofs.YtcciejcpijlkfaaW.PrintWords Go.Proofs.YtcciejcpijlkfaaW.PrintLast Go.Proofs.YtcciejcpijlkfaaW.PrintMore
set_option maxRecDepth 100000 in
set_option maxHeartbeats 8000000 in
theorem jumps_walk (n many tt0 : Int) (jump : Bool) (hm : 0 ≤ many ∧ many < 256) (ht : 0 ≤ tt0 ∧ tt0 < 256) (w : World) : Calls Try.prog 6 #[.agg #[.int .i64 n, .int .u8 many, .int .u8 tt0, .bool jump]] w fun e w' => e = .returned (.bool true) ∧ Below w.heap.size w w' := by
  have hpe := peq_some
  obtain ⟨k, hk⟩ : ∃ k : Nat, (k : Int) = many % 60 + 2 := ⟨(many % 60 + 2).toNat, by omega⟩
  obtain ⟨t, htt⟩ : ∃ t : Nat, (t : Int) = tt0 % k := ⟨(tt0 % k).toNat, by have := Int.emod_nonneg tt0 (b := (k : Int)) (by omega); omega⟩
  have hk1 : 2 ≤ k ∧ k ≤ 61 := by omega
  have htk : t < k := by have := Int.emod_lt_of_pos tt0 (b := (k : Int)) (by omega); omega
  have hw1 : IntKind.i64.wrap many = many := IntWalk.i64_in _ (by omega)
  have hw2 : IntKind.i64.wrap tt0 = tt0 := IntWalk.i64_in _ (by omega)
  have hr1 : Int.tmod many 60 = (k : Int) - 2 := by rw [Int.tmod_eq_emod_of_nonneg hm.1]; omega
  have hw3 : IntKind.i64.wrap ((k : Int) - 2) = (k : Int) - 2 := IntWalk.i64_in _ (by omega)
  have hw4 : IntKind.i64.wrap ((k : Int) - 2 + 2) = (k : Int) := (IntWalk.i64_in _ (by omega)).trans (by omega)
  have hr2 : Int.tmod tt0 (k : Int) = (t : Int) := by rw [Int.tmod_eq_emod_of_nonneg ht.1]; exact htt.symm
  have hw5 : IntKind.i64.wrap (t : Int) = (t : Int) := IntWalk.i64_in _ (by omega)
  have hk63 : -9223372036854775808 ≤ (k : Int) ∧ (k : Int) ≤ 9223372036854775807 := by omega
  have hkz : ((k : Int) == 0) = false := by simp; omega
  have hkz2 : ((k : Int) = 0) = False := eq_false (by omega)
  have hkz3 : (k = 0) = False := eq_false (by omega)
  obtain ⟨W, hW⟩ : ∃ W, W = w.alloc (.cells #[.int .i64 n, .int .u8 many, .int .u8 tt0, .bool jump] 64) := ⟨_, rfl⟩
  have hb1 : Below w.heap.size w W := by rw [hW]; exact (Below.refl w.heap.size w).alloc (Nat.le_refl _) _
  have hbx : W.heap[w.heap.size]? = some (.cells #[.int .i64 n, .int .u8 many, .int .u8 tt0, .bool jump] 64 (0, 0)) := by rw [hW]; exact alloc_blk w _
  have HW := Aside0.mk hW
  have H1 := Aside0.mk (And.intro hb1 hbx)
  have HK := Aside0.mk (And.intro hk1 htk)
  have hw6 : wrap64 (k : Int) = (k : Int) := IntWalk.wrap64_in _ hk63
  clear hk63
  clear hW hb1 hbx hk htt hk1 htk hm ht
  go_enter Try.func6, Try.ntmps6
  go_upto_region 1 with (fail)
  rw [← HW.out]
  refine wp_region_T (fun w' => Below W.heap.size W w') [] (.takes [0, 1, 2, 3, 4, 5, 6, 7] (.op 8 (.op 9 (.op 10 (.op 11 .done))))) (by kernel_rfl) (by kernel_rfl) (by kernel_rfl) (by kernel_rfl) (panic_via (P := Try.prog) (fn := Try.f6) (R := fun e w' => e = .returned (.bool true) ∧ Below w.heap.size w w') (fun _ _ _ => rfl)) ?_
  have hs : Below W.heap.size W W.drew := (Below.refl _ _).drew
  simp only [Turns.takes]
  repeat (
    (first
      | (refine runT_take (v := ?_) (by rfl) (by rfl) (fun w' hS => ?_) hs ?_
         rotate_left
         · (have hX := (hS.block _ (blk_lt H1.out.2)).trans H1.out.2; have d0 := blk_cell hX 0; have d1 := blk_cell hX 1; have d2 := blk_cell hX 2; have d3 := blk_cell hX 3; go_simp; exact rfl))
      | refine runT_skip (by rfl) (by rfl) hs ?_)
    (try simp only [Act.put, List.setIfInBounds_toArray, List.set_cons_zero, List.set_cons_succ]))
  refine runT_op (by rfl) (by rfl) (fun K hK => ?_)
  go_simp
  refine hK _ _ hs ?_
  clear hK K
  (try simp only [Act.put, List.setIfInBounds_toArray, List.set_cons_zero, List.set_cons_succ])
  refine runT_op (by rfl) (by rfl) (fun K hK => ?_)
  go_simp
  refine hK _ _ hs ?_
  clear hK K
  (try simp only [Act.put, List.setIfInBounds_toArray, List.set_cons_zero, List.set_cons_succ])
  refine runT_op (by rfl) (by rfl) (fun K hK => ?_)
  go_simp
  refine hK _ _ hs ?_
  clear hK K
  (try simp only [Act.put, List.setIfInBounds_toArray, List.set_cons_zero, List.set_cons_succ])
  refine runT_op (by rfl) (by rfl) (fun K hK => ?_)
  go_simp
  refine hK _ _ hs ?_
  clear hK K
  (try simp only [Act.put, List.setIfInBounds_toArray, List.set_cons_zero, List.set_cons_succ])
  refine runT_done ?_
  have hb2 := H1.out.1.trans (hs.mono H1.out.1.size)
  have HB := Aside0.mk hb2
  generalize W.drew = W1 at HB hs ⊢
  clear hs hb2
  cases jump with
  | true =>
    go_wp2_with fail
    simp only [hw6]
    have HJ := Aside0.mk (jmpW_start (w := w) true (t : Int) HB.out (W := (W1.alloc (.cells (icells (jmpI true (t : Int))).toArray 65)).alloc (.cells (([jmpI true (t : Int)] : List S65).flatMap icells).toArray 65)) rfl rfl)
    go_loopw [10] (fun v10 wr => ∃ (i : Nat) (A : Option Addr) (c : Nat), v10 = .slice A (i + 1) c ∧ i + 1 ≤ k ∧ Aside0 (JmpW w true (t : Int) i A c wr)) (fun v10 _ => k - (match v10 with | .slice _ n _ => n | _ => 0))
    case atStart => exact ⟨0, _, _, rfl, Nat.le_trans (by decide) HK.out.1.1, HJ⟩
    case round =>
      clear HJ HB
      obtain ⟨i, A, c, rfl, hi, HJ⟩ := hrel
      have HI := Aside0.mk hi
      by_cases hik : i + 1 < k
      · have hlt : ((i : Int) + 1 < (k : Int)) = True := eq_true (by (clear hw6; omega))
        have HI := Aside0.mk hik
        clear hik hi
        obtain ⟨b0, hb1, hb2, hR⟩ := HJ.out.row
        have HR := Aside0.mk (And.intro hb1 (And.intro hb2 hR))
        have HLE := Aside0.mk (show (jmpC true (t : Int) (i + 1)).length + ([retI] : List S65).length ≤ 1000 from by have h1 := HI.out; have h2 := HK.out.1.2; rw [jmpC_len]; show i + 1 + 1 ≤ 1000; (clear hw6; omega))
        clear hb1 hb2 hR
        go_wp2_with (first | (at_builtin; refine wpList_codesR (by rfl) (.tmp 42) (.tmp 44) (by rfl) (jmpC true (t : Int) (i + 1)) [retI] HJ.out.below HR.out.1 HR.out.2.2 HR.out.2.1 HLE.out (by rfl) wr.heap.size rfl (by rfl) ?_; intro A9 c9 w9 hb9 hR9 hh9; have H9 := Aside0.mk (And.intro hb9 (And.intro hR9 hh9)); clear hb9 hR9 hh9) | fail)
        have e9 : (jmpC true (t : Int) (i + 1) ++ [retI]).length = i + 1 + 1 := by rw [jmpC_next, jmpC_len]
        have h9 := H9.out
        rw [e9, jmpC_next] at h9
        have HN : Aside0 (JmpW w true (t : Int) (i + 1) A9 c9 w9) := ⟨⟨h9.1, _, HR.out.1, h9.2.2, h9.2.1⟩⟩
        clear e9 h9
        refine ⟨⟨i + 1, A9, c9, ?_, HI.out, HN⟩, ?_⟩
        · show Value.slice A9 ((jmpC true (t : Int) (i + 1)).length + 1) c9 = _
          rw [jmpC_len]
        · show k - ((jmpC true (t : Int) (i + 1)).length + 1) < k - (i + 1)
          rw [jmpC_len]; have := HI.out; (clear hw6; omega)
      · have hlt : ((i : Int) + 1 < (k : Int)) = False := eq_false (by (clear hw6; omega))
        have HE := Aside0.mk (show i + 1 = k from by (clear hw6; omega))
        clear hik hi
        obtain ⟨b0, hb1, hb2, hR⟩ := HJ.out.row
        have HR := Aside0.mk (Kd.R_reads' hR)
        clear hb1 hb2 hR
        obtain ⟨WA, hWA⟩ : ∃ WA, WA = wr.alloc (.cells #[.int .i64 0, .int .i64 0, .int .i64 0, .int .i64 n] 2) := ⟨_, rfl⟩
        have hbA : Below wr.heap.size wr WA := by rw [hWA]; exact (Below.refl _ _).alloc (Nat.le_refl _) _
        have hna : WA.heap[wr.heap.size]? = some (.cells (([0, 0, 0, n] : List Int).map (Value.int .i64)).toArray 2 (0, 0)) := by rw [hWA]; exact alloc_blk wr _
        have hnew := New_any 0 none 0 [] (some ⟨wr.heap.size, 0, none⟩) 4 [0, 0, 0, n] 0 0 0 0 WA (Kd.C_nil _ _) (Nat.le_refl _) (fun _ => rfl) (by simp) (reads_nums _ hna (by simp)) (Nat.le_refl _)
        have HN := Aside0.mk hnew
        have HA := Aside0.mk (And.intro hWA hbA)
        clear hWA hbA hna hnew
        go_wp2_with fail
        refine (calls_at HN.out (by rw [HA.out.1])).mono ?_
        intro e W2 hp
        obtain ⟨fb, Ap, cp, rfl, hfb, hL, hb3⟩ := hp.live (by show (-9223372036854775808 : Int) ≤ 0; decide)
        obtain ⟨W4, hW4⟩ : ∃ W4, W4 = W2.alloc (.cells #[.int .i64 4, .slice A (i + 1) c] 68) := ⟨_, rfl⟩
        have hlen : (jmpC true (t : Int) (i + 1)).length = i + 1 := jmpC_len _ _ _
        have hq := HR.out
        have hq2 := hq.2.2
        rw [hlen] at hq2
        have HQ2 := Aside0.mk hq2
        clear hq2
        have hb32 := HA.out.2.trans (hb3.mono HA.out.2.size)
        obtain ⟨hb4, hK⟩ := prog1K (w0 := wr) (W := W2) (fb := fb) ⟨4, jmpC true (t : Int) (i + 1)⟩ (A := A) (c := c) (by show k65.C wr A (jmpC true (t : Int) (i + 1)).length _; rw [hlen]; exact HQ2.out) (by rw [hlen]; exact hq.2.1) hb32 (Nat.le_trans HA.out.2.size hfb) hL.fr.lt (W4 := W4) (by rw [hlen]; exact hW4)
        have hbw := HJ.out.below.trans (hb32.mono HJ.out.below.size)
        obtain ⟨F1, hx, hat, hst⟩ := jmp_exec true t k n HK.out.2 HK.out.1
        rw [HE.out] at hK
        have HV := Aside0.mk (And.intro (hbw.trans (hb4.mono hbw.size)) (And.intro hK (And.intro (hL.below hb4) (And.intro (show w.heap.size ≤ fb from Nat.le_trans (HJ.out.below.size) (Nat.le_trans HA.out.2.size hfb)) hx))))
        have HF := Aside0.mk (And.intro hat hst)
        have HW4 := Aside0.mk hW4
        clear hp hL hfb hb3 hK hq hb32 hbw hb4 hx hat hst hlen hW4 HN
        go_wp2_with fail
        refine (calls_at (exec_any (b := 9) (d := 0) HV.out.2.1 (Nat.le_refl _) HV.out.2.2.1) (by rw [HW4.out])).mono ?_
        have hx := HV.out.2.2.2.2
        unfold jmpF0 at hx
        rw [hx]
        clear hx
        rintro e w3 ⟨Aa, ca, Ab, cb, rfl, hE, hL, hk⟩
        unfold efV
        dsimp only [efGoes, List.length_nil]
        have hb5 := HV.out.1.trans (hk.below HV.out.1.size (fun q hq e => by have := HV.out.2.2.2.1; (clear hw6; omega)))
        obtain ⟨b1, hbb⟩ : ∃ b1, b1 = w3.heap.size := ⟨_, rfl⟩
        obtain ⟨W5, hW5⟩ : ∃ W5, W5 = w3.alloc (.cells #[.int .i64 1, .int .i64 0, .int .i64 0, .int .i64 0, .int .i64 0, .int .i64 0, .slice Aa 0 ca, .slice Ab 0 cb] 36) := ⟨_, rfl⟩
        have hb6 : Below w3.heap.size w3 W5 := by rw [hW5]; exact (Below.refl w3.heap.size w3).alloc (Nat.le_refl _) _
        have hx4 : W5.heap[b1]? = some (.cells #[.int .i64 1, .int .i64 0, .int .i64 0, .int .i64 0, .int .i64 0, .int .i64 0, .slice Aa 0 ca, .slice Ab 0 cb] 36 (0, 0)) := by rw [hW5, hbb]; exact alloc_blk w3 _
        have HW5 := Aside0.mk (And.intro hW5 hbb)
        have hb7 := hb5.trans (hb6.mono hb5.size)
        have HL := Aside0.mk (And.intro (hL.below hb6) hb7)
        have y0 := blk_cell hx4 0
        have y1 := HL.out.1.fr.fix.2.1
        have y2 := HL.out.1.fr.fix.2.2.1
        rw [HF.out.1] at y1
        (first | rw [if_pos (show (true = true ∨ n = 0) from Or.inl rfl)] at y1 | simp only [true_or, if_true] at y1 | skip)
        rw [HF.out.2] at y2
        clear hE hL hk hb5 hb6 hb7 hx4 hbb hW5
        go_upto_region 14 with (fail)
        rw [← HW5.out.1, ← HW5.out.2]
        clear HW5
        have hwk : IntKind.i64.wrap (t : Int) = (t : Int) := hw5
        go_wp2_with fail
        refine (awake_any _).mono ?_
        rintro e w9 ⟨rfl, hb9⟩
        have HB9 := Aside0.mk hb9
        clear hb9
        go_wp2_with fail
        go_ret
        exact ⟨rfl, HL.out.2.trans (HB9.out.mono HL.out.2.size)⟩
  | false =>
    by_cases hn0 : n = 0
    · have hnz : (n = 0) = True := eq_true hn0
      have hnb : (n == 0) = true := by rw [hn0]; rfl
      have HN0 := Aside0.mk hn0
      clear hn0
      go_wp2_with fail
      simp only [hw6]
      have HJ := Aside0.mk (jmpW_start (w := w) false (t : Int) HB.out (W := (W1.alloc (.cells (icells (jmpI false (t : Int))).toArray 65)).alloc (.cells (([jmpI false (t : Int)] : List S65).flatMap icells).toArray 65)) rfl rfl)
      go_loopw [10] (fun v10 wr => ∃ (i : Nat) (A : Option Addr) (c : Nat), v10 = .slice A (i + 1) c ∧ i + 1 ≤ k ∧ Aside0 (JmpW w false (t : Int) i A c wr)) (fun v10 _ => k - (match v10 with | .slice _ n _ => n | _ => 0))
      case atStart => exact ⟨0, _, _, rfl, Nat.le_trans (by decide) HK.out.1.1, HJ⟩
      case round =>
        clear HJ HB
        obtain ⟨i, A, c, rfl, hi, HJ⟩ := hrel
        have HI := Aside0.mk hi
        by_cases hik : i + 1 < k
        · have hlt : ((i : Int) + 1 < (k : Int)) = True := eq_true (by (clear hw6; omega))
          have HI := Aside0.mk hik
          clear hik hi
          obtain ⟨b0, hb1, hb2, hR⟩ := HJ.out.row
          have HR := Aside0.mk (And.intro hb1 (And.intro hb2 hR))
          have HLE := Aside0.mk (show (jmpC false (t : Int) (i + 1)).length + ([retI] : List S65).length ≤ 1000 from by have h1 := HI.out; have h2 := HK.out.1.2; rw [jmpC_len]; show i + 1 + 1 ≤ 1000; (clear hw6; omega))
          clear hb1 hb2 hR
          go_wp2_with (first | (at_builtin; refine wpList_codesR (by rfl) (.tmp 42) (.tmp 44) (by rfl) (jmpC false (t : Int) (i + 1)) [retI] HJ.out.below HR.out.1 HR.out.2.2 HR.out.2.1 HLE.out (by rfl) wr.heap.size rfl (by rfl) ?_; intro A9 c9 w9 hb9 hR9 hh9; have H9 := Aside0.mk (And.intro hb9 (And.intro hR9 hh9)); clear hb9 hR9 hh9) | fail)
          have e9 : (jmpC false (t : Int) (i + 1) ++ [retI]).length = i + 1 + 1 := by rw [jmpC_next, jmpC_len]
          have h9 := H9.out
          rw [e9, jmpC_next] at h9
          have HN : Aside0 (JmpW w false (t : Int) (i + 1) A9 c9 w9) := ⟨⟨h9.1, _, HR.out.1, h9.2.2, h9.2.1⟩⟩
          clear e9 h9
          refine ⟨⟨i + 1, A9, c9, ?_, HI.out, HN⟩, ?_⟩
          · show Value.slice A9 ((jmpC false (t : Int) (i + 1)).length + 1) c9 = _
            rw [jmpC_len]
          · show k - ((jmpC false (t : Int) (i + 1)).length + 1) < k - (i + 1)
            rw [jmpC_len]; have := HI.out; (clear hw6; omega)
        · have hlt : ((i : Int) + 1 < (k : Int)) = False := eq_false (by (clear hw6; omega))
          have HE := Aside0.mk (show i + 1 = k from by (clear hw6; omega))
          clear hik hi
          obtain ⟨b0, hb1, hb2, hR⟩ := HJ.out.row
          have HR := Aside0.mk (Kd.R_reads' hR)
          clear hb1 hb2 hR
          obtain ⟨WA, hWA⟩ : ∃ WA, WA = wr.alloc (.cells #[.int .i64 0, .int .i64 0, .int .i64 0, .int .i64 n] 2) := ⟨_, rfl⟩
          have hbA : Below wr.heap.size wr WA := by rw [hWA]; exact (Below.refl _ _).alloc (Nat.le_refl _) _
          have hna : WA.heap[wr.heap.size]? = some (.cells (([0, 0, 0, n] : List Int).map (Value.int .i64)).toArray 2 (0, 0)) := by rw [hWA]; exact alloc_blk wr _
          have hnew := New_any 0 none 0 [] (some ⟨wr.heap.size, 0, none⟩) 4 [0, 0, 0, n] 0 0 0 0 WA (Kd.C_nil _ _) (Nat.le_refl _) (fun _ => rfl) (by simp) (reads_nums _ hna (by simp)) (Nat.le_refl _)
          have HN := Aside0.mk hnew
          have HA := Aside0.mk (And.intro hWA hbA)
          clear hWA hbA hna hnew
          go_wp2_with fail
          refine (calls_at HN.out (by rw [HA.out.1])).mono ?_
          intro e W2 hp
          obtain ⟨fb, Ap, cp, rfl, hfb, hL, hb3⟩ := hp.live (by show (-9223372036854775808 : Int) ≤ 0; decide)
          obtain ⟨W4, hW4⟩ : ∃ W4, W4 = W2.alloc (.cells #[.int .i64 4, .slice A (i + 1) c] 68) := ⟨_, rfl⟩
          have hlen : (jmpC false (t : Int) (i + 1)).length = i + 1 := jmpC_len _ _ _
          have hq := HR.out
          have hq2 := hq.2.2
          rw [hlen] at hq2
          have HQ2 := Aside0.mk hq2
          clear hq2
          have hb32 := HA.out.2.trans (hb3.mono HA.out.2.size)
          obtain ⟨hb4, hK⟩ := prog1K (w0 := wr) (W := W2) (fb := fb) ⟨4, jmpC false (t : Int) (i + 1)⟩ (A := A) (c := c) (by show k65.C wr A (jmpC false (t : Int) (i + 1)).length _; rw [hlen]; exact HQ2.out) (by rw [hlen]; exact hq.2.1) hb32 (Nat.le_trans HA.out.2.size hfb) hL.fr.lt (W4 := W4) (by rw [hlen]; exact hW4)
          have hbw := HJ.out.below.trans (hb32.mono HJ.out.below.size)
          obtain ⟨F1, hx, hat, hst⟩ := jmp_exec false t k n HK.out.2 HK.out.1
          rw [HE.out] at hK
          have HV := Aside0.mk (And.intro (hbw.trans (hb4.mono hbw.size)) (And.intro hK (And.intro (hL.below hb4) (And.intro (show w.heap.size ≤ fb from Nat.le_trans (HJ.out.below.size) (Nat.le_trans HA.out.2.size hfb)) hx))))
          have HF := Aside0.mk (And.intro hat hst)
          have HW4 := Aside0.mk hW4
          clear hp hL hfb hb3 hK hq hb32 hbw hb4 hx hat hst hlen hW4 HN
          go_wp2_with fail
          refine (calls_at (exec_any (b := 9) (d := 0) HV.out.2.1 (Nat.le_refl _) HV.out.2.2.1) (by rw [HW4.out])).mono ?_
          have hx := HV.out.2.2.2.2
          unfold jmpF0 at hx
          rw [hx]
          clear hx
          rintro e w3 ⟨Aa, ca, Ab, cb, rfl, hE, hL, hk⟩
          unfold efV
          dsimp only [efGoes, List.length_nil]
          have hb5 := HV.out.1.trans (hk.below HV.out.1.size (fun q hq e => by have := HV.out.2.2.2.1; (clear hw6; omega)))
          obtain ⟨b1, hbb⟩ : ∃ b1, b1 = w3.heap.size := ⟨_, rfl⟩
          obtain ⟨W5, hW5⟩ : ∃ W5, W5 = w3.alloc (.cells #[.int .i64 1, .int .i64 0, .int .i64 0, .int .i64 0, .int .i64 0, .int .i64 0, .slice Aa 0 ca, .slice Ab 0 cb] 36) := ⟨_, rfl⟩
          have hb6 : Below w3.heap.size w3 W5 := by rw [hW5]; exact (Below.refl w3.heap.size w3).alloc (Nat.le_refl _) _
          have hx4 : W5.heap[b1]? = some (.cells #[.int .i64 1, .int .i64 0, .int .i64 0, .int .i64 0, .int .i64 0, .int .i64 0, .slice Aa 0 ca, .slice Ab 0 cb] 36 (0, 0)) := by rw [hW5, hbb]; exact alloc_blk w3 _
          have HW5 := Aside0.mk (And.intro hW5 hbb)
          have hb7 := hb5.trans (hb6.mono hb5.size)
          have HL := Aside0.mk (And.intro (hL.below hb6) hb7)
          have y0 := blk_cell hx4 0
          have y1 := HL.out.1.fr.fix.2.1
          have y2 := HL.out.1.fr.fix.2.2.1
          rw [HF.out.1] at y1
          (first | rw [if_pos (show (false = true ∨ n = 0) from Or.inr HN0.out)] at y1 | simp only [true_or, if_true] at y1 | skip)
          rw [HF.out.2] at y2
          clear hE hL hk hb5 hb6 hb7 hx4 hbb hW5
          go_upto_region 14 with (fail)
          rw [← HW5.out.1, ← HW5.out.2]
          clear HW5
          have hwk : IntKind.i64.wrap (t : Int) = (t : Int) := hw5
          go_wp2_with fail
          refine (awake_any _).mono ?_
          rintro e w9 ⟨rfl, hb9⟩
          have HB9 := Aside0.mk hb9
          clear hb9
          go_wp2_with fail
          go_ret
          exact ⟨rfl, HL.out.2.trans (HB9.out.mono HL.out.2.size)⟩
    · have hnz : (n = 0) = False := eq_false hn0
      have hnb : (n == 0) = false := by simp [hn0]
      have HN0 := Aside0.mk hn0
      clear hn0
      go_wp2_with fail
      simp only [hw6]
      have HJ := Aside0.mk (jmpW_start (w := w) false (t : Int) HB.out (W := (W1.alloc (.cells (icells (jmpI false (t : Int))).toArray 65)).alloc (.cells (([jmpI false (t : Int)] : List S65).flatMap icells).toArray 65)) rfl rfl)
      go_loopw [10] (fun v10 wr => ∃ (i : Nat) (A : Option Addr) (c : Nat), v10 = .slice A (i + 1) c ∧ i + 1 ≤ k ∧ Aside0 (JmpW w false (t : Int) i A c wr)) (fun v10 _ => k - (match v10 with | .slice _ n _ => n | _ => 0))
      case atStart => exact ⟨0, _, _, rfl, Nat.le_trans (by decide) HK.out.1.1, HJ⟩
      case round =>
        clear HJ HB
        obtain ⟨i, A, c, rfl, hi, HJ⟩ := hrel
        have HI := Aside0.mk hi
        by_cases hik : i + 1 < k
        · have hlt : ((i : Int) + 1 < (k : Int)) = True := eq_true (by (clear hw6; omega))
          have HI := Aside0.mk hik
          clear hik hi
          obtain ⟨b0, hb1, hb2, hR⟩ := HJ.out.row
          have HR := Aside0.mk (And.intro hb1 (And.intro hb2 hR))
          have HLE := Aside0.mk (show (jmpC false (t : Int) (i + 1)).length + ([retI] : List S65).length ≤ 1000 from by have h1 := HI.out; have h2 := HK.out.1.2; rw [jmpC_len]; show i + 1 + 1 ≤ 1000; (clear hw6; omega))
          clear hb1 hb2 hR
          go_wp2_with (first | (at_builtin; refine wpList_codesR (by rfl) (.tmp 42) (.tmp 44) (by rfl) (jmpC false (t : Int) (i + 1)) [retI] HJ.out.below HR.out.1 HR.out.2.2 HR.out.2.1 HLE.out (by rfl) wr.heap.size rfl (by rfl) ?_; intro A9 c9 w9 hb9 hR9 hh9; have H9 := Aside0.mk (And.intro hb9 (And.intro hR9 hh9)); clear hb9 hR9 hh9) | fail)
          have e9 : (jmpC false (t : Int) (i + 1) ++ [retI]).length = i + 1 + 1 := by rw [jmpC_next, jmpC_len]
          have h9 := H9.out
          rw [e9, jmpC_next] at h9
          have HN : Aside0 (JmpW w false (t : Int) (i + 1) A9 c9 w9) := ⟨⟨h9.1, _, HR.out.1, h9.2.2, h9.2.1⟩⟩
          clear e9 h9
          refine ⟨⟨i + 1, A9, c9, ?_, HI.out, HN⟩, ?_⟩
          · show Value.slice A9 ((jmpC false (t : Int) (i + 1)).length + 1) c9 = _
            rw [jmpC_len]
          · show k - ((jmpC false (t : Int) (i + 1)).length + 1) < k - (i + 1)
            rw [jmpC_len]; have := HI.out; (clear hw6; omega)
        · have hlt : ((i : Int) + 1 < (k : Int)) = False := eq_false (by (clear hw6; omega))
          have HE := Aside0.mk (show i + 1 = k from by (clear hw6; omega))
          clear hik hi
          obtain ⟨b0, hb1, hb2, hR⟩ := HJ.out.row
          have HR := Aside0.mk (Kd.R_reads' hR)
          clear hb1 hb2 hR
          obtain ⟨WA, hWA⟩ : ∃ WA, WA = wr.alloc (.cells #[.int .i64 0, .int .i64 0, .int .i64 0, .int .i64 n] 2) := ⟨_, rfl⟩
          have hbA : Below wr.heap.size wr WA := by rw [hWA]; exact (Below.refl _ _).alloc (Nat.le_refl _) _
          have hna : WA.heap[wr.heap.size]? = some (.cells (([0, 0, 0, n] : List Int).map (Value.int .i64)).toArray 2 (0, 0)) := by rw [hWA]; exact alloc_blk wr _
          have hnew := New_any 0 none 0 [] (some ⟨wr.heap.size, 0, none⟩) 4 [0, 0, 0, n] 0 0 0 0 WA (Kd.C_nil _ _) (Nat.le_refl _) (fun _ => rfl) (by simp) (reads_nums _ hna (by simp)) (Nat.le_refl _)
          have HN := Aside0.mk hnew
          have HA := Aside0.mk (And.intro hWA hbA)
          clear hWA hbA hna hnew
          go_wp2_with fail
          refine (calls_at HN.out (by rw [HA.out.1])).mono ?_
          intro e W2 hp
          obtain ⟨fb, Ap, cp, rfl, hfb, hL, hb3⟩ := hp.live (by show (-9223372036854775808 : Int) ≤ 0; decide)
          obtain ⟨W4, hW4⟩ : ∃ W4, W4 = W2.alloc (.cells #[.int .i64 4, .slice A (i + 1) c] 68) := ⟨_, rfl⟩
          have hlen : (jmpC false (t : Int) (i + 1)).length = i + 1 := jmpC_len _ _ _
          have hq := HR.out
          have hq2 := hq.2.2
          rw [hlen] at hq2
          have HQ2 := Aside0.mk hq2
          clear hq2
          have hb32 := HA.out.2.trans (hb3.mono HA.out.2.size)
          obtain ⟨hb4, hK⟩ := prog1K (w0 := wr) (W := W2) (fb := fb) ⟨4, jmpC false (t : Int) (i + 1)⟩ (A := A) (c := c) (by show k65.C wr A (jmpC false (t : Int) (i + 1)).length _; rw [hlen]; exact HQ2.out) (by rw [hlen]; exact hq.2.1) hb32 (Nat.le_trans HA.out.2.size hfb) hL.fr.lt (W4 := W4) (by rw [hlen]; exact hW4)
          have hbw := HJ.out.below.trans (hb32.mono HJ.out.below.size)
          obtain ⟨F1, hx, hat, hst⟩ := jmp_exec false t k n HK.out.2 HK.out.1
          rw [HE.out] at hK
          have HV := Aside0.mk (And.intro (hbw.trans (hb4.mono hbw.size)) (And.intro hK (And.intro (hL.below hb4) (And.intro (show w.heap.size ≤ fb from Nat.le_trans (HJ.out.below.size) (Nat.le_trans HA.out.2.size hfb)) hx))))
          have HF := Aside0.mk (And.intro hat hst)
          have HW4 := Aside0.mk hW4
          clear hp hL hfb hb3 hK hq hb32 hbw hb4 hx hat hst hlen hW4 HN
          go_wp2_with fail
          refine (calls_at (exec_any (b := 9) (d := 0) HV.out.2.1 (Nat.le_refl _) HV.out.2.2.1) (by rw [HW4.out])).mono ?_
          have hx := HV.out.2.2.2.2
          unfold jmpF0 at hx
          rw [hx]
          clear hx
          rintro e w3 ⟨Aa, ca, Ab, cb, rfl, hE, hL, hk⟩
          unfold efV
          dsimp only [efGoes, List.length_nil]
          have hb5 := HV.out.1.trans (hk.below HV.out.1.size (fun q hq e => by have := HV.out.2.2.2.1; (clear hw6; omega)))
          obtain ⟨b1, hbb⟩ : ∃ b1, b1 = w3.heap.size := ⟨_, rfl⟩
          obtain ⟨W5, hW5⟩ : ∃ W5, W5 = w3.alloc (.cells #[.int .i64 1, .int .i64 0, .int .i64 0, .int .i64 0, .int .i64 0, .int .i64 0, .slice Aa 0 ca, .slice Ab 0 cb] 36) := ⟨_, rfl⟩
          have hb6 : Below w3.heap.size w3 W5 := by rw [hW5]; exact (Below.refl w3.heap.size w3).alloc (Nat.le_refl _) _
          have hx4 : W5.heap[b1]? = some (.cells #[.int .i64 1, .int .i64 0, .int .i64 0, .int .i64 0, .int .i64 0, .int .i64 0, .slice Aa 0 ca, .slice Ab 0 cb] 36 (0, 0)) := by rw [hW5, hbb]; exact alloc_blk w3 _
          have HW5 := Aside0.mk (And.intro hW5 hbb)
          have hb7 := hb5.trans (hb6.mono hb5.size)
          have HL := Aside0.mk (And.intro (hL.below hb6) hb7)
          have y0 := blk_cell hx4 0
          have y1 := HL.out.1.fr.fix.2.1
          have y2 := HL.out.1.fr.fix.2.2.1
          rw [HF.out.1] at y1
          (first | rw [if_neg (fun h => h.elim (fun e => by cases e) HN0.out)] at y1 | simp only [true_or, if_true] at y1 | skip)
          rw [HF.out.2] at y2
          clear hE hL hk hb5 hb6 hb7 hx4 hbb hW5
          go_upto_region 14 with (fail)
          rw [← HW5.out.1, ← HW5.out.2]
          clear HW5
          have hwk : IntKind.i64.wrap (t : Int) = (t : Int) := hw5
          go_wp2_with fail
          refine (awake_any _).mono ?_
          rintro e w9 ⟨rfl, hb9⟩
          have HB9 := Aside0.mk hb9
          clear hb9
          go_wp2_with fail
          go_ret
          exact ⟨rfl, HL.out.2.trans (HB9.out.mono HL.out.2.size)⟩
def haymowlaw12_FrameJumps.f (a0 a1 a2 : Int) (a3 : Bool) : Option Bool := if decide (0 ≤ a1 ∧ a1 < 256) && decide (0 ≤ a2 ∧ a2 < 256) then some true else none
theorem haymowlaw12_FrameJumps.calls (a0 a1 a2 : Int) (a3 : Bool) (r : Bool) (w : World) (h : haymowlaw12_FrameJumps.f a0 a1 a2 a3 = some r) : Calls Try.prog 6 #[.agg #[.int .i64 a0, .int .u8 a1, .int .u8 a2, .bool a3]] w fun e w' => e = .returned (.bool r) ∧ Below w.heap.size w w' := by
  unfold haymowlaw12_FrameJumps.f at h
  split at h
  · rename_i hc
    cases h
    rw [Bool.and_eq_true] at hc
    exact jumps_walk a0 a1 a2 a3 (of_decide_eq_true hc.1) (of_decide_eq_true hc.2) w
  · cases h
end Go.Proofs.Ytcciejcpijlkfaa.H

set_option linter.unusedVariables false
set_option linter.unusedSimpArgs false
namespace Go.Hay
open Go.RowKit Go.Proofs.YtcciejcpijlkfaaW.PrintWords Go.Proofs.YtcciejcpijlkfaaW.PrintLast Go.Proofs.YtcciejcpijlkfaaW.PrintMore

def Opens {α : Type} (P : Program) (t : TypeId) (d : Kd α) (wf : α → Prop) : Prop :=
  ∀ {H : Type} {enc : TypeId × Value → H} {w : World} {base : Nat} {spare : Nat → Bool} {held : Bool} {fuel : Nat} {cs : List Value} {x : DataW H × List MemPlace},
    DataW.trod enc P w base spare held fuel t cs = some x → ∃ a, d.K w a cs ∧ wf a

theorem opens_int {P : Program} {t : TypeId} {k : IntKind} (ht : P.underlying t = some (.int k)) : Opens P t (Kd.int k) (fun n => (Lit.int k n).wf = true) := by
  intro H enc w base spare held fuel cs x h
  cases fuel with
  | zero => simp [DataW.trod] at h
  | succ fuel =>
    unfold DataW.trod at h
    simp only [ht] at h
    split at h <;> simp_all
    rename_i k' n _
    obtain ⟨⟨rfl, hw⟩, _⟩ := h
    exact ⟨n, rfl, hw⟩
theorem opens_bool {P : Program} {t : TypeId} (ht : P.underlying t = some .bool) : Opens P t Kd.bool (fun _ => True) := by
  intro H enc w base spare held fuel cs x h
  cases fuel with
  | zero => simp [DataW.trod] at h
  | succ fuel =>
    unfold DataW.trod at h
    rw [ht] at h
    split at h <;> first | (exfalso; simp_all; done) | skip
    rename_i b _
    exact ⟨b, rfl, trivial⟩
def OpensAt {α : Type} (P : Program) (fs : List Field) (off : Nat) (d : Kd α) (wf : α → Prop) : Prop :=
  ∀ {H : Type} {enc : TypeId × Value → H} {w : World} {base : Nat} {spare : Nat → Bool} {held : Bool} {n : Nat} {cs : List Value} {xs : List (DataW H × List MemPlace)},
    xs.length = fs.length → (∀ (i : Nat) (f : Field), fs[i]? = some f → DataW.trod enc P w base spare held n f.type ((cs.drop f.offset).take (P.cellsOf f.type)) = xs[i]?) → ∃ a, d.K w a ((cs.drop off).take d.sz) ∧ wf a
theorem opens_last {α : Type} {P : Program} {f : Field} {off : Nat} {d : Kd α} {wf : α → Prop} (ho : f.offset = off) (hc : P.cellsOf f.type = d.sz) (he : Opens P f.type d wf) : OpensAt P [f] off d wf := by
  intro H enc w base spare held n cs xs hl h
  have h0 := h 0 f rfl
  rw [ho, hc, List.getElem?_eq_getElem (by rw [hl]; simp)] at h0
  exact he h0
theorem opens_cons {α β : Type} {P : Program} {f : Field} {fs : List Field} {off : Nat} {d : Kd α} {d2 : Kd β} {wf : α → Prop} {wf2 : β → Prop} (ho : f.offset = off) (hc : P.cellsOf f.type = d.sz) (he : Opens P f.type d wf)
    (hr : OpensAt P fs (off + d.sz) d2 wf2) : OpensAt P (f :: fs) off (Kd.pair d d2) (fun p => wf p.1 ∧ wf2 p.2) := by
  intro H enc w base spare held n cs xs hl h
  have h0 := h 0 f rfl
  rw [ho, hc, List.getElem?_eq_getElem (by rw [hl]; simp)] at h0
  obtain ⟨a, ha, hwa⟩ := he h0
  obtain ⟨b, hb, hwb⟩ := hr (n := n) (cs := cs) (xs := xs.drop 1) (by simp [hl]) (fun i g hg => by
    have := h (i + 1) g (by simpa using hg)
    rw [this]; simp [Nat.add_comm])
  refine ⟨(a, b), ⟨_, _, ?_, ha, hb⟩, hwa, hwb⟩
  show (cs.drop off).take (d.sz + d2.sz) = _
  rw [List.take_add, List.drop_drop]
theorem opens_struct {α : Type} {P : Program} {t : TypeId} {fs : Array Field} {d : Kd α} {wf : α → Prop} (ht : P.underlying t = some (.struct fs)) (hc : P.cellsOf t = d.sz) (h : OpensAt P fs.toList 0 d wf) : Opens P t d wf := by
  intro H enc w base spare held fuel cs x hx
  obtain ⟨xs, n, rfl, rfl, hlen, hxl, hall⟩ := DataW.trod_struct ht hx
  obtain ⟨a, ha, hwa⟩ := h (n := n) (cs := cs) (xs := xs) (by simpa using hxl) (fun i f hf => hall i f (by simpa using hf))
  refine ⟨a, ?_, hwa⟩
  rwa [List.drop_zero, List.take_of_length_le (by omega)] at ha
theorem opens_iso {α β : Type} {P : Program} {t : TypeId} {d : Kd α} {wf : α → Prop} (g : β → α) (f : α → β) (hf : ∀ a, g (f a) = a) (h : Opens P t d wf) : Opens P t (Kd.iso d g) (fun b => wf (g b)) := by
  intro H enc w base spare held fuel cs x hx
  obtain ⟨a, ha, hwa⟩ := h hx
  exact ⟨f a, by show d.K w (g (f a)) cs; rw [hf]; exact ha, by show wf (g (f a)); rw [hf]; exact hwa⟩
end Go.Hay

-- made by this session's gen.py: the row of the law haymow/haymowlaw12.FrameJumps; not trusted: Lean checks it
namespace Go.Proofs.Ytcciejcpijlkfaa.frameJumps
open Go.ChangeShapes Go.WideShapes Go.ChangeAt Go.RowKit Go.Hay Go.Proofs.Ytcciejcpijlkfaa.H Go.Proofs.YtcciejcpijlkfaaW.PrintWords Go.Proofs.YtcciejcpijlkfaaW.PrintLast Go.Proofs.YtcciejcpijlkfaaW.PrintMore
open Go.ChangeMaps (open_string shut_string)
set_option linter.unusedVariables false
set_option linter.unusedSimpArgs false
theorem own : ownKnob Try.prog.godebug = none := by kernel_rfl
theorem laidOut : laidOutB Try.prog = true := by kernel_rfl
structure S64 where
  f0 : Int
  f1 : Int
  f2 : Int
  f3 : Bool
def k64 : Kd S64 := Kd.iso (Kd.pair ((Kd.int .i64)) (Kd.pair ((Kd.int .u8)) (Kd.pair ((Kd.int .u8)) Kd.bool))) (fun x : S64 => (x.f0, x.f1, x.f2, x.f3))
theorem k64_open {w : World} {x : S64} {cs : List Value} (h : k64.K w x cs) : cs = [.int .i64 x.f0, .int .u8 x.f1, .int .u8 x.f2, .bool x.f3] := by
  obtain ⟨_, _, rfl, rfl, ⟨_, _, rfl, rfl, ⟨_, _, rfl, rfl, rfl⟩⟩⟩ := h
  exact rfl
theorem opens2 : Opens Try.prog 2 (Kd.int .i64) (fun x => (Lit.int .i64 x).wf = true) := opens_int Try.underlying2
theorem opens5 : Opens Try.prog 5 (Kd.int .u8) (fun x => (Lit.int .u8 x).wf = true) := opens_int Try.underlying5
theorem opens4 : Opens Try.prog 4 Kd.bool (fun x => True) := opens_bool Try.underlying4
def wfT64 (x : S64) : Prop := ((Lit.int .i64 x.f0).wf = true ∧ (Lit.int .u8 x.f1).wf = true ∧ (Lit.int .u8 x.f2).wf = true ∧ True)
theorem opens64 : Opens Try.prog 64 k64 wfT64 := opens_iso _ (fun y => (⟨y.1, y.2.1, y.2.2.1, y.2.2.2⟩ : S64)) (fun _ => rfl) (opens_struct Try.underlying64 (by kernel_rfl) (opens_cons rfl (by kernel_rfl) opens2 (opens_cons rfl (by kernel_rfl) opens5 (opens_cons rfl (by kernel_rfl) opens5 (opens_last rfl (by kernel_rfl) opens4)))))
def Pure : Prop := ∀ (a0_0 : Int) (a0_1 : Int) (a0_2 : Int) (a0_3 : Bool), wfT64 ⟨a0_0, a0_1, a0_2, a0_3⟩ → haymowlaw12_FrameJumps.f a0_0 a0_1 a0_2 a0_3 = some true
set_option maxRecDepth 100000 in
theorem lifted (PU : Pure) (os : Os) (started : os.Started) (H : Type) (enc : TypeId × Value → H) :
    ReturnsInHanded {} Try.checked os 6 .any (Rows.frameJumpsSpec.pre6 enc Try.prog Try.f6 Rows.frameJumpsRow.domain false) (Rows.frameJumpsSpec.post enc Try.prog Try.f6 false true false false) := by
  refine returnsInHanded_of_change_sized (C := Try.checked) own started (by kernel_rfl) Try.func6
    (ChangeSpec.witness6 (enc := enc) (C := Try.checked) false ⟨#[], #[.agg #[.int .i64 0, .int .u8 0, .int .u8 0, .bool false]], []⟩ 8 (by kernel_rfl) (by kernel_rfl) (by kernel_rfl) (by kernel_rfl)) ?_
  intro W base args ds gs before hval0 hW hcnd hsz0 _
  have hval : ∀ (j : Nat) t v, Try.f6.params[j]? = some t → args[j]? = some v → Value.okWide Try.prog W .any base t v := hval0
  have hW' := hW
  obtain ⟨p, q, hA0, hV, rfl, hfz, hnd⟩ := hW
  have hA : DataW.TrodAll enc Try.prog W 0 (fun _ => true) true Try.f6.params.toList args.toList ds p := hA0
  rw [Try.params6] at hA hval
  obtain ⟨v0, vs0, d0, ds0, p0, q0, hargs, rfl, rfl, h0, r0⟩ := trodAll_cons hA
  obtain ⟨rfl, rfl, rfl⟩ := trodAll_nil r0
  obtain rfl : args = #[v0] := by cases args; simp_all
  obtain ⟨rfl, rfl⟩ := trodVars_none hV
  obtain ⟨cs0, rfl, hz0⟩ := okWide_struct Try.underlying64 (hval 0 64 v0 rfl rfl)
  have k0 := h0
  have lt0 : ∀ x ∈ p0, x.block < W.heap.size := by obtain ⟨m, hm⟩ := k0; exact DataW.trod_lt m _ _ _ hm
  obtain ⟨fuel0, hf0⟩ := h0
  obtain ⟨x0, hK0, hwf0⟩ := opens64 hf0
  have hcs0 := k64_open hK0
  obtain rfl : cs0 = #[.int .i64 x0.f0, .int .u8 x0.f1, .int .u8 x0.f2, .bool x0.f3] := by cases cs0; simpa [Value.cells] using hcs0
  clear hA0 hval0 hsz0
  have hpure := PU x0.f0 x0.f1 x0.f2 x0.f3 hwf0
  refine (haymowlaw12_FrameJumps.calls x0.f0 x0.f1 x0.f2 x0.f3 true W hpure).mono fun e W' hpost => ?_
  obtain ⟨he, bel⟩ := hpost
  subst he
  exact ⟨_, rfl, _, _, _, [], _, [], hW', trodAll_mk1 (shut_bool Try.underlying4 _), (trodAll_cons_mk (Below.trod laidOut (by kernel_rfl) (of_decide_eq_true (by kernel_rfl)) k0 bel lt0) trodAll_mk0), rfl, bel.frame _, fun h => by cases h⟩
theorem over (PU : Pure) : Rows.frameJumpsRow.holds Try.pinned (OpenSpec.ofChange Rows.frameJumpsSpec) :=
  OpenClaim.holds_of_wide 6 Try.f6 rfl rfl rfl rfl rfl rfl rfl ⟨rfl, rfl, rfl, rfl, rfl⟩ rfl rfl rfl rfl rfl (by kernel_rfl) Try.func6 (by kernel_rfl)
    (of_decide_eq_true (by kernel_rfl)) (by unfold Func.isWrapper; first | (rw [if_pos (by decide +kernel)]; kernel_rfl) | (rw [if_neg (by decide +kernel)]; exact ⟨rfl, rfl⟩))
    (fun os started H enc _ => lifted PU os started H enc)
theorem said (PU : Pure) : Rows.FrameJumpsSaid := over PU
end Go.Proofs.Ytcciejcpijlkfaa.frameJumps

namespace Go.Proofs.Ytcciejcpijlkfaa
open Go.RowKit
theorem u8_range {n : Int} (h : (Lit.int .u8 n).wf = true) : 0 ≤ n ∧ n < 256 := by
  have e1 : IntKind.u8.min = 0 := by decide
  have e2 : IntKind.u8.max = 255 := by decide
  have h' : IntKind.u8.min ≤ n ∧ n ≤ IntKind.u8.max := by simpa [Lit.wf, go_sem] using h
  rw [e1, e2] at h'
  omega
theorem frameJumps_holds : Rows.FrameJumpsSaid := frameJumps.said (fun n a b c h => by
  unfold H.haymowlaw12_FrameJumps.f
  obtain ⟨h0, h1, h2, _⟩ := h
  rw [if_pos (by simp only [Bool.and_eq_true, decide_eq_true_eq]; exact ⟨u8_range h1, u8_range h2⟩)])
#print axioms frameJumps_holds
end Go.Proofs.Ytcciejcpijlkfaa

