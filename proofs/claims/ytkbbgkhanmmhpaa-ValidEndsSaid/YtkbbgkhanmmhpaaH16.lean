-- made by this session's gen.py over the kit's print.py; not trusted: Lean checks it
import Derived.Test.YtkbbgkhanmmhpaaCheck
import Derived.Test.YtkbbgkhanmmhpaaH0
import Derived.Test.YtkbbgkhanmmhpaaH11
namespace Go.Proofs.Ytkbbgkhanmmhpaa.H
open Go.RowKit Go.Proofs.YtkbbgkhanmmhpaaW.PrintWords Go.Proofs.YtkbbgkhanmmhpaaW.PrintLast Go.Proofs.YtkbbgkhanmmhpaaW.PrintMore
attribute [local go_sem] max2_int min2_int max_two min_two max_three min_three max_four min_four   -- for this text's walks alone
set_option linter.unusedVariables false
set_option linter.unusedSimpArgs false

/-! ### haymowlaw03_ValidEnds: function 7 -/
mutual
def haymowlaw03_ValidEnds.l0 : Nat → Int → Int → List (S33) → Int → Option (Bool)
  | 0, _, _, _, _ => none
  | k + 1, x5, x6, x7, x8 => if x8 < x6 then (if x7.length < 3518437208883 then (haymowlaw03_ValidEnds.l0 k x5 x6 (x7 ++ [(⟨12, 0, 0, 0, 0⟩ : S33)]) (wrap64 (x8 + 1))) else (none)) else (if x5 = 16 then (haymowlaw03_ValidEnds.j1 k x5 x6 x7 x5 0 0 0 16) else (haymowlaw03_ValidEnds.j1 k x5 x6 x7 x5 0 0 0 0))
def haymowlaw03_ValidEnds.j1 : Nat → Int → Int → List (S33) → Int → Int → Int → Int → Int → Option (Bool)
  | 0, _, _, _, _, _, _, _, _ => none
  | k + 1, x5, x6, x7, x251000, x251001, x251002, x251003, x251004 => if x7.length < 3518437208883 then ((valid_Check.f (([(⟨0, (x7 ++ [(⟨x251000, x251001, x251002, x251003, x251004⟩ : S33)])⟩ : S36)] : List (S36)))).bind fun bt257 => (if x5 = 9 then (haymowlaw03_ValidEnds.j2 k x6 bt257.1 bt257.2.1 bt257.2.2 true) else (if x5 = 16 then (haymowlaw03_ValidEnds.j2 k x6 bt257.1 bt257.2.1 bt257.2.2 true) else (haymowlaw03_ValidEnds.j2 k x6 bt257.1 bt257.2.1 bt257.2.2 (x5 == 17))))) else (none)
def haymowlaw03_ValidEnds.j2 : Nat → Int → Int → Int → Int → Bool → Option (Bool)
  | 0, _, _, _, _, _ => none
  | k + 1, x6, x10, x11, x12, x54 => if x54 = true then (if x10 = 0 then (if x11 = 0 then (if x12 = 0 then ((haymowlaw03_awake.f).bind fun t260 => (some t260)) else (some false)) else (some false)) else (some false)) else (if x10 = 0 then (if x11 = x6 then (if x12 = 11 then ((haymowlaw03_awake.f).bind fun t261 => (some t261)) else (some false)) else (some false)) else (some false))
end
def haymowlaw03_ValidEnds.f (k : Nat) (a0 : Int) (a1 : Int) : Option (Bool) := haymowlaw03_ValidEnds.l0 k (wrap64 ((Int.tmod (wrap64 (a0)) 17) + 1)) (Int.tmod (wrap64 (a1)) 60) ([] : List (S33)) 0
theorem haymowlaw03_ValidEnds.mono_l : ∀ k, (∀ y0 y1 y2 y3, LeO (haymowlaw03_ValidEnds.l0 k y0 y1 y2 y3) (haymowlaw03_ValidEnds.l0 (k + 1) y0 y1 y2 y3)) ∧ (∀ y0 y1 y2 y3 y4 y5 y6 y7, LeO (haymowlaw03_ValidEnds.j1 k y0 y1 y2 y3 y4 y5 y6 y7) (haymowlaw03_ValidEnds.j1 (k + 1) y0 y1 y2 y3 y4 y5 y6 y7)) ∧ (∀ y0 y1 y2 y3 y4, LeO (haymowlaw03_ValidEnds.j2 k y0 y1 y2 y3 y4) (haymowlaw03_ValidEnds.j2 (k + 1) y0 y1 y2 y3 y4))
  | 0 => ⟨fun _ _ _ _ r h => by simp [haymowlaw03_ValidEnds.l0] at h, fun _ _ _ _ _ _ _ _ r h => by simp [haymowlaw03_ValidEnds.j1] at h, fun _ _ _ _ _ r h => by simp [haymowlaw03_ValidEnds.j2] at h⟩
  | k + 1 => by
    obtain ⟨ih0, ih1, ih2⟩ := haymowlaw03_ValidEnds.mono_l k
    refine ⟨?_, ?_, ?_⟩
    · intro y0 y1 y2 y3
      unfold haymowlaw03_ValidEnds.l0
      repeat' first
      | (with_reducible exact ih0 _ _ _ _)
      | (with_reducible exact ih1 _ _ _ _ _ _ _ _)
      | (with_reducible exact ih2 _ _ _ _ _)
      | (with_reducible exact LeO.refl _)
      | (with_reducible exact LeO.none _)
      | (with_reducible refine LeO.ite ?_ ?_)
      | (with_reducible refine LeO.bind ?_ (fun _ => ?_))
      | exact ih0 _ _ _ _
      | exact ih1 _ _ _ _ _ _ _ _
      | exact ih2 _ _ _ _ _
      | exact LeO.none _
      | refine LeO.ite ?_ ?_
      | refine LeO.bind ?_ (fun _ => ?_)
    · intro y0 y1 y2 y3 y4 y5 y6 y7
      unfold haymowlaw03_ValidEnds.j1
      repeat' first
      | (with_reducible exact ih0 _ _ _ _)
      | (with_reducible exact ih1 _ _ _ _ _ _ _ _)
      | (with_reducible exact ih2 _ _ _ _ _)
      | (with_reducible exact LeO.refl _)
      | (with_reducible exact LeO.none _)
      | (with_reducible refine LeO.ite ?_ ?_)
      | (with_reducible refine LeO.bind ?_ (fun _ => ?_))
      | exact ih0 _ _ _ _
      | exact ih1 _ _ _ _ _ _ _ _
      | exact ih2 _ _ _ _ _
      | exact LeO.none _
      | refine LeO.ite ?_ ?_
      | refine LeO.bind ?_ (fun _ => ?_)
    · intro y0 y1 y2 y3 y4
      unfold haymowlaw03_ValidEnds.j2
      repeat' first
      | (with_reducible exact ih0 _ _ _ _)
      | (with_reducible exact ih1 _ _ _ _ _ _ _ _)
      | (with_reducible exact ih2 _ _ _ _ _)
      | (with_reducible exact LeO.refl _)
      | (with_reducible exact LeO.none _)
      | (with_reducible refine LeO.ite ?_ ?_)
      | (with_reducible refine LeO.bind ?_ (fun _ => ?_))
      | exact ih0 _ _ _ _
      | exact ih1 _ _ _ _ _ _ _ _
      | exact ih2 _ _ _ _ _
      | exact LeO.none _
      | refine LeO.ite ?_ ?_
      | refine LeO.bind ?_ (fun _ => ?_)
theorem haymowlaw03_ValidEnds.mono : ∀ a0 a1 k, LeO (haymowlaw03_ValidEnds.f k a0 a1) (haymowlaw03_ValidEnds.f (k + 1) a0 a1) := by
  intro a0 a1 k
  obtain ⟨ih0, ih1, ih2⟩ := haymowlaw03_ValidEnds.mono_l k
  unfold haymowlaw03_ValidEnds.f
  repeat' first
      | (with_reducible exact ih0 _ _ _ _)
      | (with_reducible exact ih1 _ _ _ _ _ _ _ _)
      | (with_reducible exact ih2 _ _ _ _ _)
      | (with_reducible exact LeO.refl _)
      | (with_reducible exact LeO.none _)
      | (with_reducible refine LeO.ite ?_ ?_)
      | (with_reducible refine LeO.bind ?_ (fun _ => ?_))
      | exact ih0 _ _ _ _
      | exact ih1 _ _ _ _ _ _ _ _
      | exact ih2 _ _ _ _ _
      | exact LeO.none _
      | refine LeO.ite ?_ ?_
      | refine LeO.bind ?_ (fun _ => ?_)
set_option maxHeartbeats 8000000 in
set_option maxRecDepth 100000 in
theorem haymowlaw03_ValidEnds.calls (k : Nat) (a0 : Int) (a1 : Int) (r : Bool) (w : World) (h : haymowlaw03_ValidEnds.f k a0 a1 = some r) :
    Calls Try.prog 7 #[.int .u8 a0, .int .u8 a1] w fun e w' => e = .returned (.bool r) ∧ Below w.heap.size w w' := by
  have hu33 := Try.underlying33
  have hu36 := Try.underlying36
  have HB := Aside0.mk (Below.refl w.heap.size w)
  have H : (haymowlaw03_ValidEnds.l0 k (wrap64 ((Int.tmod (wrap64 (a0)) 17) + 1)) (Int.tmod (wrap64 (a1)) 60) ([] : List (S33)) 0) = some r := h
  clear h
  have H' := Aside0.mk H
  clear H
  go_enter Try.func7, Try.ntmps7
  go_wp2
  go_loopg [7, 8] k (fun kq v7 v8 w' => ∃ (x7_1 : List (S33)) (x8_1 : Int), v8 = .int .i64 x8_1 ∧ Aside0 (haymowlaw03_ValidEnds.l0 kq (wrap64 ((Int.tmod (wrap64 (a0)) 17) + 1)) (Int.tmod (wrap64 (a1)) 60) x7_1 x8_1 = some r) ∧ Aside0 (kq ≤ k) ∧ Aside0 (Kd.R k33 33 w' w.heap.size (fun _ => True) v7 x7_1) ∧ Aside0 (Below w.heap.size w w'))
  case atStart => exact ⟨(([] : List (S33))), (0), (by first | rfl | (simp; done) | (simp [*]; done)), H', ⟨Nat.le_refl _⟩, ⟨by first | exact Kd.R_nil _ _ _ _ _ | exact Kd.N_nil _ _ _ _ _ | exact Kd.V_nil _ _ _ _ _ | exact Kd.Q_nil _ _ _ _ _ | exact Kd.S_nil _ _ _ _ _⟩, ⟨by repeat (first | (with_reducible first | exact HB.out | apply below_alloc | apply pw_below_drewN | apply below_drew1) | exact HB.out)⟩⟩
  case round =>
    clear H'
    try clear p2
    obtain ⟨x7_1, x8_1, rfl, HA, HK1, HO_7, HB⟩ := hrel
    cases gk with
    | zero => exact absurd HA.out (by simp [haymowlaw03_ValidEnds.l0])
    | succ k1 =>
      have H := HA.out
      clear HA
      simp only [haymowlaw03_ValidEnds.l0] at H
      by_cases c3 : x8_1 < (Int.tmod (wrap64 (a1)) 60)
      · rw [if_pos c3] at H
        have c3b0 : decide (x8_1 < (Int.tmod (wrap64 (a1)) 60)) = true := decide_eq_true c3
        clear c3
        by_cases c4 : x7_1.length < 3518437208883
        · rw [if_pos c4] at H
          have LMc4 := Aside0.mk c4
          clear c4
          obtain ⟨y247, hy247⟩ : ∃ y_ : List (S33), y_ = (x7_1 ++ [(⟨12, 0, 0, 0, 0⟩ : S33)]) := ⟨_, rfl⟩
          replace H : (haymowlaw03_ValidEnds.l0 k1 (wrap64 ((Int.tmod (wrap64 (a0)) 17) + 1)) (Int.tmod (wrap64 (a1)) 60) y247 (wrap64 (x8_1 + 1))) = some r := by first | (rw [hy247]; with_reducible exact H) | (have H2_ := (Option.bind_some _ _).symm.trans H; rw [hy247]; with_reducible exact H2_) | (have H2_ := (Option.bind_some _ _).symm.trans H; with_reducible exact H2_) | with_reducible exact H | (rw [hy247]; exact H) | exact H
          have Ny247 := Aside0.mk hy247
          clear hy247
          have H' := Aside0.mk H
          clear H
          go_wp2_with (first | ((with_reducible refine gate_builtin (b := .append) (xs := #[.tmp 25, .tmp 27]) rfl ?_); at_builtin; refine Kd.R_append k33 (w0 := w) w.heap.size rfl (.tmp 25) (.tmp 27) 34 33 (.agg #[(.int .i64 0), (.int .i64 0), (.int .i64 0), (.int .i64 0), (.int .i64 0)]) 40 rfl Try.underlying34 info33 rfl (by decide) (by omega) u7 x7_1 (⟨12, 0, 0, 0, 0⟩ : S33) [.int .i64 12, .int .i64 0, .int .i64 0, .int .i64 0, .int .i64 0] (fun _ => True) (fun _ => False) rfl rfl ?aP (fun _ hk => hk.elim) ?aF ?aO ?aB ?aS ?aL ?_; (case aP => exact k33_mkM _ _ _ (⟨12, 0, 0, 0, 0⟩ : S33)); (case aB => exact (by repeat (first | (with_reducible first | exact HB.out | apply below_alloc | apply pw_below_drewN | apply below_drew1) | exact HB.out))); (case aF => exact (fun _ _ => trivial)); (case aO => exact (by (with_reducible repeat (first | apply Kd.R_alloc | apply Kd.R_drewN | apply Kd.R_drew)); exact HO_7.out)); (case aS => exact (below_size (by repeat (first | (with_reducible first | exact HB.out | apply below_alloc | apply pw_below_drewN | apply below_drew1) | exact HB.out)))); (case aL => have := LMc4.out; omega); intro v248 w5 ho hb hg hat; rw [← Ny247.out] at ho; have n0_ := Aside0.mk (hb); have n1_ := Aside0.mk (ho); clear HB; clear HO_7; have HB := n0_; have HO249 := n1_; clear n0_ n1_; clear ho hb hg hat))
          go_roundg k1
          case measure => have := HK1.out; omega
          case rel => exact ⟨(y247), (wrap64 (x8_1 + 1)), (by first | rfl | (simp; done) | (simp [*]; done)), H', ⟨by have := HK1.out; omega⟩, ⟨by (with_reducible repeat (first | apply Kd.R_alloc | apply Kd.R_drewN | apply Kd.R_drew)); exact HO249.out⟩, ⟨by repeat (first | (with_reducible first | exact HB.out | apply below_alloc | apply pw_below_drewN | apply below_drew1) | exact HB.out)⟩⟩
        · rw [if_neg c4] at H
          exact absurd H (by simp)
      · rw [if_neg c3] at H
        have c3b0 : decide (x8_1 < (Int.tmod (wrap64 (a1)) 60)) = false := decide_eq_false c3
        clear c3
        have HC6 := Aside0.mk H
        clear H
        go_upto_if 32 with (first | ((with_reducible refine gate_dst (N := 9) rfl ?_); refine box_event ?hg (N := 9) ?hd (cs := #[.int .i64 0, .int .i64 0, .int .i64 0, .int .i64 0, .int .i64 0]) (t := 33) ?hr ?_; (case hd => rfl); (case hg => rfl); (case hr => first | (go_simp; done) | (go_simp; rfl)); intro gb250 hg w7 hbox hb; have n0_ := Aside0.mk (Kd.R_below (Kd.R_elderB (by (with_reducible repeat (first | apply Kd.R_alloc | apply Kd.R_drewN | apply Kd.R_drew)); exact HO_7.out) gb250 (Nat.le_of_eq hg.symm)) hb); have n1_ := Aside0.mk (below_step (by repeat (first | (with_reducible first | exact HB.out | apply below_alloc | apply pw_below_drewN | apply below_drew1) | exact HB.out)) hb); have n2_ := Aside0.mk (hbox); have n3_ := Aside0.mk ((by rw [hg]; exact (below_size (by repeat (first | (with_reducible first | exact HB.out | apply below_alloc | apply pw_below_drewN | apply below_drew1) | exact HB.out))) : w.heap.size ≤ gb250)); have n4_ := Aside0.mk ((by rw [hg]; exact (below_size (by repeat (first | (with_reducible first | exact HB.out | apply below_alloc | apply pw_below_drewN | apply below_drew1) | exact HB.out))) : w.heap.size ≤ gb250)); clear HO_7; clear HB; have HO_7 := n0_; have HB := n1_; have BK250 := n2_; have GW250 := n3_; have GE250 := n4_; clear n0_ n1_ n2_ n3_ n4_; clear hb hbox hg; have hcz8_0 : w7.cell? ⟨gb250, 0, none⟩ = some (.int .i64 0) := (blk_cell BK250.out 0).trans rfl; have hcz8_1 : w7.cell? ⟨gb250, 1, none⟩ = some (.int .i64 0) := (blk_cell BK250.out 1).trans rfl; have hcz8_2 : w7.cell? ⟨gb250, 2, none⟩ = some (.int .i64 0) := (blk_cell BK250.out 2).trans rfl; have hcz8_3 : w7.cell? ⟨gb250, 3, none⟩ = some (.int .i64 0) := (blk_cell BK250.out 3).trans rfl; have hcz8_4 : w7.cell? ⟨gb250, 4, none⟩ = some (.int .i64 0) := (blk_cell BK250.out 4).trans rfl; have hfz8_0 := blk_frozen BK250.out 0; have hfz8_1 := blk_frozen BK250.out 1; have hfz8_2 := blk_frozen BK250.out 2; have hfz8_3 := blk_frozen BK250.out 3; have hfz8_4 := blk_frozen BK250.out 4))
        (try simp only [Act.put, List.setIfInBounds_toArray, List.set_cons_zero, List.set_cons_succ])
        go_cut [] (fun wc => ∃ (kq : Nat) (x251004_5 : Int), Aside0 (haymowlaw03_ValidEnds.j1 kq (wrap64 ((Int.tmod (wrap64 (a0)) 17) + 1)) (Int.tmod (wrap64 (a1)) 60) x7_1 (wrap64 ((Int.tmod (wrap64 (a0)) 17) + 1)) 0 0 0 x251004_5 = some r) ∧ Aside0 (kq ≤ k1) ∧ Aside0 (Kd.R k33 33 wc w.heap.size (fun k_ => k_ ≠ gb250) u7 x7_1) ∧ Aside0 (wc.heap[gb250]? = some (.cells #[.int .i64 (wrap64 ((Int.tmod (wrap64 (a0)) 17) + 1)), .int .i64 0, .int .i64 0, .int .i64 0, .int .i64 x251004_5] 33 (0, 0))) ∧ Aside0 (Below w.heap.size w wc))
        case first =>
          have H := HC6.out
          clear HC6
          by_cases c9 : (wrap64 ((Int.tmod (wrap64 (a0)) 17) + 1)) = 16
          · rw [if_pos c9] at H
            have c9b0 : ((wrap64 ((Int.tmod (wrap64 (a0)) 17) + 1)) == 16) = true := beq_iff_eq.mpr c9
            have c9b1 : ((wrap64 ((Int.tmod (wrap64 (a0)) 17) + 1)) != 16) = false := bne_eq_false_iff_eq.mpr c9
            clear c9
            (first | rw [c9b0] | (simp only [i64_w, i32_w]; rw [c9b0]) | skip)
            have H' := Aside0.mk H
            clear H
            have hcz10_0 : w7.cell? ⟨gb250, 0, none⟩ = some (.int .i64 0) := (blk_cell BK250.out 0).trans rfl
            have hcz10_1 : w7.cell? ⟨gb250, 1, none⟩ = some (.int .i64 0) := (blk_cell BK250.out 1).trans rfl
            have hcz10_2 : w7.cell? ⟨gb250, 2, none⟩ = some (.int .i64 0) := (blk_cell BK250.out 2).trans rfl
            have hcz10_3 : w7.cell? ⟨gb250, 3, none⟩ = some (.int .i64 0) := (blk_cell BK250.out 3).trans rfl
            have hcz10_4 : w7.cell? ⟨gb250, 4, none⟩ = some (.int .i64 0) := (blk_cell BK250.out 4).trans rfl
            have hfz10_0 := blk_frozen BK250.out 0
            have hfz10_1 := blk_frozen BK250.out 1
            have hfz10_2 := blk_frozen BK250.out 2
            have hfz10_3 := blk_frozen BK250.out 3
            have hfz10_4 := blk_frozen BK250.out 4
            go_wp2
            go_meet
            case rel => exact ⟨_, (16), H', ⟨by have := HK1.out; first | omega | exact Nat.le_refl _⟩, ⟨by (with_reducible repeat (first | apply Kd.R_alloc | apply Kd.R_drewN | apply Kd.R_drew)); exact Kd.R_mono (Kd.R_far (p := ⟨gb250, 4, none⟩) (Kd.R_far (p := ⟨gb250, 4, none⟩) (Kd.R_far (p := ⟨gb250, 3, none⟩) (Kd.R_far (p := ⟨gb250, 2, none⟩) (Kd.R_far (p := ⟨gb250, 1, none⟩) (Kd.R_far (p := ⟨gb250, 0, none⟩) (Kd.R_mono HO_7.out (fun k_ hk => (⟨hk, hk.2⟩ : _ ∧ k_ ≠ gb250))) (fun _ hk => hk.2) (.int .i64 (wrap64 ((Int.tmod (wrap64 (a0)) 17) + 1)))) (fun _ hk => hk.2) (.int .i64 0)) (fun _ hk => hk.2) (.int .i64 0)) (fun _ hk => hk.2) (.int .i64 0)) (fun _ hk => hk.2) (.int .i64 0)) (fun _ hk => hk.2) (.int .i64 16)) (fun _ hk => hk.1.2)⟩, ⟨by (with_reducible repeat (first | refine blk_drewN ?_ _ | refine blk_drew ?_ | refine blk_alloc ?_ _)); refine blk_put (cs := #[.int .i64 (wrap64 ((Int.tmod (wrap64 (a0)) 17) + 1)), .int .i64 0, .int .i64 0, .int .i64 0, .int .i64 0]) ?_ 4 _ rfl; (with_reducible repeat (first | refine blk_drewN ?_ _ | refine blk_drew ?_ | refine blk_alloc ?_ _)); refine blk_put (cs := #[.int .i64 (wrap64 ((Int.tmod (wrap64 (a0)) 17) + 1)), .int .i64 0, .int .i64 0, .int .i64 0, .int .i64 0]) ?_ 4 _ rfl; (with_reducible repeat (first | refine blk_drewN ?_ _ | refine blk_drew ?_ | refine blk_alloc ?_ _)); refine blk_put (cs := #[.int .i64 (wrap64 ((Int.tmod (wrap64 (a0)) 17) + 1)), .int .i64 0, .int .i64 0, .int .i64 0, .int .i64 0]) ?_ 3 _ rfl; (with_reducible repeat (first | refine blk_drewN ?_ _ | refine blk_drew ?_ | refine blk_alloc ?_ _)); refine blk_put (cs := #[.int .i64 (wrap64 ((Int.tmod (wrap64 (a0)) 17) + 1)), .int .i64 0, .int .i64 0, .int .i64 0, .int .i64 0]) ?_ 2 _ rfl; (with_reducible repeat (first | refine blk_drewN ?_ _ | refine blk_drew ?_ | refine blk_alloc ?_ _)); refine blk_put (cs := #[.int .i64 (wrap64 ((Int.tmod (wrap64 (a0)) 17) + 1)), .int .i64 0, .int .i64 0, .int .i64 0, .int .i64 0]) ?_ 1 _ rfl; (with_reducible repeat (first | refine blk_drewN ?_ _ | refine blk_drew ?_ | refine blk_alloc ?_ _)); refine blk_put (cs := #[.int .i64 0, .int .i64 0, .int .i64 0, .int .i64 0, .int .i64 0]) ?_ 0 _ rfl; (with_reducible repeat (first | refine blk_drewN ?_ _ | refine blk_drew ?_ | refine blk_alloc ?_ _)); exact BK250.out⟩, ⟨by repeat (first | (with_reducible first | exact HB.out | apply below_alloc | apply pw_below_drewN | apply below_drew1 | refine below_set ?_ GE250.out) | exact HB.out)⟩⟩
          · rw [if_neg c9] at H
            have c9b0 : ((wrap64 ((Int.tmod (wrap64 (a0)) 17) + 1)) == 16) = false := beq_eq_false_iff_ne.mpr c9
            have c9b1 : ((wrap64 ((Int.tmod (wrap64 (a0)) 17) + 1)) != 16) = true := bne_iff_ne.mpr c9
            (first | rw [c9b0] | (simp only [i64_w, i32_w]; rw [c9b0]) | skip)
            have H' := Aside0.mk H
            clear H
            go_wp2
            go_meet
            case rel => exact ⟨_, (0), H', ⟨by have := HK1.out; first | omega | exact Nat.le_refl _⟩, ⟨by (with_reducible repeat (first | apply Kd.R_alloc | apply Kd.R_drewN | apply Kd.R_drew)); exact Kd.R_mono (Kd.R_far (p := ⟨gb250, 4, none⟩) (Kd.R_far (p := ⟨gb250, 3, none⟩) (Kd.R_far (p := ⟨gb250, 2, none⟩) (Kd.R_far (p := ⟨gb250, 1, none⟩) (Kd.R_far (p := ⟨gb250, 0, none⟩) (Kd.R_mono HO_7.out (fun k_ hk => (⟨hk, hk.2⟩ : _ ∧ k_ ≠ gb250))) (fun _ hk => hk.2) (.int .i64 (wrap64 ((Int.tmod (wrap64 (a0)) 17) + 1)))) (fun _ hk => hk.2) (.int .i64 0)) (fun _ hk => hk.2) (.int .i64 0)) (fun _ hk => hk.2) (.int .i64 0)) (fun _ hk => hk.2) (.int .i64 0)) (fun _ hk => hk.1.2)⟩, ⟨by (with_reducible repeat (first | refine blk_drewN ?_ _ | refine blk_drew ?_ | refine blk_alloc ?_ _)); refine blk_put (cs := #[.int .i64 (wrap64 ((Int.tmod (wrap64 (a0)) 17) + 1)), .int .i64 0, .int .i64 0, .int .i64 0, .int .i64 0]) ?_ 4 _ rfl; (with_reducible repeat (first | refine blk_drewN ?_ _ | refine blk_drew ?_ | refine blk_alloc ?_ _)); refine blk_put (cs := #[.int .i64 (wrap64 ((Int.tmod (wrap64 (a0)) 17) + 1)), .int .i64 0, .int .i64 0, .int .i64 0, .int .i64 0]) ?_ 3 _ rfl; (with_reducible repeat (first | refine blk_drewN ?_ _ | refine blk_drew ?_ | refine blk_alloc ?_ _)); refine blk_put (cs := #[.int .i64 (wrap64 ((Int.tmod (wrap64 (a0)) 17) + 1)), .int .i64 0, .int .i64 0, .int .i64 0, .int .i64 0]) ?_ 2 _ rfl; (with_reducible repeat (first | refine blk_drewN ?_ _ | refine blk_drew ?_ | refine blk_alloc ?_ _)); refine blk_put (cs := #[.int .i64 (wrap64 ((Int.tmod (wrap64 (a0)) 17) + 1)), .int .i64 0, .int .i64 0, .int .i64 0, .int .i64 0]) ?_ 1 _ rfl; (with_reducible repeat (first | refine blk_drewN ?_ _ | refine blk_drew ?_ | refine blk_alloc ?_ _)); refine blk_put (cs := #[.int .i64 0, .int .i64 0, .int .i64 0, .int .i64 0, .int .i64 0]) ?_ 0 _ rfl; (with_reducible repeat (first | refine blk_drewN ?_ _ | refine blk_drew ?_ | refine blk_alloc ?_ _)); exact BK250.out⟩, ⟨by repeat (first | (with_reducible first | exact HB.out | apply below_alloc | apply pw_below_drewN | apply below_drew1 | refine below_set ?_ GE250.out) | exact HB.out)⟩⟩
        case rest =>
          clear HC6
          try clear p2
          try clear c3
          try clear c3b0
          try clear c4
          try clear p6
          try clear c7
          try clear c9
          try clear c9b0
          try clear c9b1
          try clear hcz10_0
          try clear hcz10_1
          try clear hcz10_2
          try clear hcz10_3
          try clear hcz10_4
          try clear hcz8_0
          try clear hcz8_1
          try clear hcz8_2
          try clear hcz8_3
          try clear hcz8_4
          try clear hfz10_0
          try clear hfz10_1
          try clear hfz10_2
          try clear hfz10_3
          try clear hfz10_4
          try clear hfz8_0
          try clear hfz8_1
          try clear hfz8_2
          try clear hfz8_3
          try clear hfz8_4
          try clear p2
          obtain ⟨kq, x251004_5, HA, HJ5, HO_7, BK250, HB⟩ := hcut
          cases kq with
          | zero => exact absurd HA.out (by simp [haymowlaw03_ValidEnds.j1])
          | succ kj5 =>
            have H := HA.out
            clear HA
            simp only [haymowlaw03_ValidEnds.j1] at H
            by_cases c11 : x7_1.length < 3518437208883
            · rw [if_pos c11] at H
              have LMc11 := Aside0.mk c11
              clear c11
              obtain ⟨y251, hy251⟩ : ∃ y_ : List (S33), y_ = (x7_1 ++ [(⟨(wrap64 ((Int.tmod (wrap64 (a0)) 17) + 1)), 0, 0, 0, x251004_5⟩ : S33)]) := ⟨_, rfl⟩
              replace H : ((valid_Check.f (([(⟨0, y251⟩ : S36)] : List (S36)))).bind fun bt257 => (if (wrap64 ((Int.tmod (wrap64 (a0)) 17) + 1)) = 9 then (haymowlaw03_ValidEnds.j2 kj5 (Int.tmod (wrap64 (a1)) 60) bt257.1 bt257.2.1 bt257.2.2 true) else (if (wrap64 ((Int.tmod (wrap64 (a0)) 17) + 1)) = 16 then (haymowlaw03_ValidEnds.j2 kj5 (Int.tmod (wrap64 (a1)) 60) bt257.1 bt257.2.1 bt257.2.2 true) else (haymowlaw03_ValidEnds.j2 kj5 (Int.tmod (wrap64 (a1)) 60) bt257.1 bt257.2.1 bt257.2.2 ((wrap64 ((Int.tmod (wrap64 (a0)) 17) + 1)) == 17))))) = some r := by first | (rw [hy251]; with_reducible exact H) | (have H2_ := (Option.bind_some _ _).symm.trans H; rw [hy251]; with_reducible exact H2_) | (have H2_ := (Option.bind_some _ _).symm.trans H; with_reducible exact H2_) | with_reducible exact H | (rw [hy251]; exact H) | exact H
              have Ny251 := Aside0.mk hy251
              clear hy251
              obtain ⟨y254, hy254⟩ : ∃ y_ : List (S36), y_ = (([(⟨0, y251⟩ : S36)] : List (S36))) := ⟨_, rfl⟩
              replace H : ((valid_Check.f y254).bind fun bt257 => (if (wrap64 ((Int.tmod (wrap64 (a0)) 17) + 1)) = 9 then (haymowlaw03_ValidEnds.j2 kj5 (Int.tmod (wrap64 (a1)) 60) bt257.1 bt257.2.1 bt257.2.2 true) else (if (wrap64 ((Int.tmod (wrap64 (a0)) 17) + 1)) = 16 then (haymowlaw03_ValidEnds.j2 kj5 (Int.tmod (wrap64 (a1)) 60) bt257.1 bt257.2.1 bt257.2.2 true) else (haymowlaw03_ValidEnds.j2 kj5 (Int.tmod (wrap64 (a1)) 60) bt257.1 bt257.2.1 bt257.2.2 ((wrap64 ((Int.tmod (wrap64 (a0)) 17) + 1)) == 17))))) = some r := by first | (rw [hy254]; with_reducible exact H) | (have H2_ := (Option.bind_some _ _).symm.trans H; rw [hy254]; with_reducible exact H2_) | (have H2_ := (Option.bind_some _ _).symm.trans H; with_reducible exact H2_) | with_reducible exact H | (rw [hy254]; exact H) | exact H
              have Ny254 := Aside0.mk hy254
              clear hy254
              replace H := Option.bind_eq_some_iff.mp H
              obtain ⟨⟨t257, t258, t259⟩, A120, H⟩ := H
              replace H : (if (wrap64 ((Int.tmod (wrap64 (a0)) 17) + 1)) = 9 then (haymowlaw03_ValidEnds.j2 kj5 (Int.tmod (wrap64 (a1)) 60) t257 t258 t259 true) else (if (wrap64 ((Int.tmod (wrap64 (a0)) 17) + 1)) = 16 then (haymowlaw03_ValidEnds.j2 kj5 (Int.tmod (wrap64 (a1)) 60) t257 t258 t259 true) else (haymowlaw03_ValidEnds.j2 kj5 (Int.tmod (wrap64 (a1)) 60) t257 t258 t259 ((wrap64 ((Int.tmod (wrap64 (a0)) 17) + 1)) == 17)))) = some r := H
              have A12 := Aside0.mk A120
              clear A120
              have HC13 := Aside0.mk H
              clear H
              have hcz14_0 : wc.cell? ⟨gb250, 0, none⟩ = some (.int .i64 (wrap64 ((Int.tmod (wrap64 (a0)) 17) + 1))) := (blk_cell BK250.out 0).trans rfl
              have hcz14_1 : wc.cell? ⟨gb250, 1, none⟩ = some (.int .i64 0) := (blk_cell BK250.out 1).trans rfl
              have hcz14_2 : wc.cell? ⟨gb250, 2, none⟩ = some (.int .i64 0) := (blk_cell BK250.out 2).trans rfl
              have hcz14_3 : wc.cell? ⟨gb250, 3, none⟩ = some (.int .i64 0) := (blk_cell BK250.out 3).trans rfl
              have hcz14_4 : wc.cell? ⟨gb250, 4, none⟩ = some (.int .i64 x251004_5) := (blk_cell BK250.out 4).trans rfl
              have hfz14_0 := blk_frozen BK250.out 0
              have hfz14_1 := blk_frozen BK250.out 1
              have hfz14_2 := blk_frozen BK250.out 2
              have hfz14_3 := blk_frozen BK250.out 3
              have hfz14_4 := blk_frozen BK250.out 4
              go_upto_region 11 with (first | ((with_reducible refine gate_builtin (b := .append) (xs := #[.tmp 35, .tmp 37]) rfl ?_); at_builtin; refine Kd.R_append k33 (w0 := w) w.heap.size rfl (.tmp 35) (.tmp 37) 34 33 (.agg #[(.int .i64 0), (.int .i64 0), (.int .i64 0), (.int .i64 0), (.int .i64 0)]) 40 rfl Try.underlying34 info33 rfl (by decide) (by omega) u7 x7_1 (⟨(wrap64 ((Int.tmod (wrap64 (a0)) 17) + 1)), 0, 0, 0, x251004_5⟩ : S33) [.int .i64 (wrap64 ((Int.tmod (wrap64 (a0)) 17) + 1)), .int .i64 0, .int .i64 0, .int .i64 0, .int .i64 x251004_5] (fun k_ => k_ ≠ gb250) (fun _ => False) rfl rfl ?aP (fun _ hk => hk.elim) ?aF ?aO ?aB ?aS ?aL ?_; (case aP => exact k33_mkM _ _ _ (⟨(wrap64 ((Int.tmod (wrap64 (a0)) 17) + 1)), 0, 0, 0, x251004_5⟩ : S33)); (case aB => exact (by repeat (first | (with_reducible first | exact HB.out | apply below_alloc | apply pw_below_drewN | apply below_drew1 | refine below_set ?_ GE250.out) | exact HB.out))); (case aF => exact (fun k_ hk => Kd.freshB (g := gb250) (o := .cells #[.int .i64 (wrap64 ((Int.tmod (wrap64 (a0)) 17) + 1)), .int .i64 0, .int .i64 0, .int .i64 0, .int .i64 x251004_5] 33 (0, 0)) (by (with_reducible repeat (first | refine blk_drewN ?_ _ | refine blk_drew ?_ | refine blk_alloc ?_ _)); exact BK250.out) k_ hk)); (case aO => exact (by (with_reducible repeat (first | apply Kd.R_alloc | apply Kd.R_drewN | apply Kd.R_drew)); exact HO_7.out)); (case aS => exact (below_size (by repeat (first | (with_reducible first | exact HB.out | apply below_alloc | apply pw_below_drewN | apply below_drew1 | refine below_set ?_ GE250.out) | exact HB.out)))); (case aL => have := LMc11.out; omega); intro v252 w15 ho hb hg hat; rw [← Ny251.out] at ho; have n0_ := Aside0.mk (blk_grown (g := gb250) (o := .cells #[.int .i64 (wrap64 ((Int.tmod (wrap64 (a0)) 17) + 1)), .int .i64 0, .int .i64 0, .int .i64 0, .int .i64 x251004_5] 33 (0, 0)) (by (with_reducible repeat (first | refine blk_drewN ?_ _ | refine blk_drew ?_ | refine blk_alloc ?_ _)); exact BK250.out) hg (Kd.R_away HO_7.out (fun _ hk => hk))); have n1_ := Aside0.mk (hb); have n2_ := Aside0.mk (ho); clear BK250; clear HB; clear HO_7; have BK250 := n0_; have HB := n1_; have HO253 := n2_; clear n0_ n1_ n2_; clear ho hb hg hat; obtain ⟨Ao16, co16, eo16⟩ := Kd.R_slice HO253.out; subst eo16) | ((with_reducible refine gate_dst (N := 40) rfl ?_); refine Kd.N_lit k36 _ 36 ?hg (N' := 40) ?hd (xs := ([(⟨0, y251⟩ : S36)] : List (S36))) (inner := [.int .i64 0, .slice Ao16 y251.length co16]) (ok := (fun k_ => k_ ≠ gb250)) (okp := (fun k_ => k_ ≠ gb250)) ?hr ?hp (fun _ hk => hk) ((show ∀ k_, w15.heap.size ≤ k_ → (fun k_ => k_ ≠ gb250) k_ from fun k_ hk => Kd.freshB (g := gb250) (o := .cells #[.int .i64 (wrap64 ((Int.tmod (wrap64 (a0)) 17) + 1)), .int .i64 0, .int .i64 0, .int .i64 0, .int .i64 x251004_5] 33 (0, 0)) (by (with_reducible repeat (first | refine blk_drewN ?_ _ | refine blk_drew ?_ | refine blk_alloc ?_ _)); exact BK250.out) k_ hk) _ (Nat.le_refl _)) (Below.refl _ _) (Nat.le_refl _) (by simp) ?_; (case hd => rfl); (case hg => rfl); (case hr => first | (go_simp; done) | (go_simp; rfl)); (case hp => exact (Reps.c2 (show Kd.FK k36 _ _ (⟨0, y251⟩ : S36) [.int .i64 0, .slice Ao16 y251.length co16] from (k36_mkF _ _ (⟨0, y251⟩ : S36) (Kd.R_reads' (Kd.R_mono (ok' := (fun k_ => k_ ≠ gb250)) (HO253.out) (fun k_ hk => hk))).2.1 (Kd.R_F (Kd.R_mono (ok' := (fun k_ => k_ ≠ gb250)) (HO253.out) (fun k_ hk => hk))))) (Reps.none _ _))); intro v255 w17 ho18 hb hg_ hnew_; clear hg_ hnew_; (first | rw [← Ny254.out] at ho18 | (simp only [Int.reduceToNat] at ho18; rw [← Ny254.out] at ho18)); have n0_ := Aside0.mk (Kd.N_lower ho18 (below_size (by repeat (first | (with_reducible first | exact HB.out | apply below_alloc | apply pw_below_drewN | apply below_drew1 | refine below_set ?_ GE250.out) | exact HB.out)))); have n1_ := Aside0.mk (blk_below (g := gb250) (o := .cells #[.int .i64 (wrap64 ((Int.tmod (wrap64 (a0)) 17) + 1)), .int .i64 0, .int .i64 0, .int .i64 0, .int .i64 x251004_5] 33 (0, 0)) (by (with_reducible repeat (first | refine blk_drewN ?_ _ | refine blk_drew ?_ | refine blk_alloc ?_ _)); exact BK250.out) hb); have n2_ := Aside0.mk (below_step (by repeat (first | (with_reducible first | exact HB.out | apply below_alloc | apply pw_below_drewN | apply below_drew1 | refine below_set ?_ GE250.out) | exact HB.out)) hb); clear BK250; clear HB; clear HO253; have HO256 := n0_; have BK250 := n1_; have HB := n2_; clear n0_ n1_ n2_; clear hb ho18; obtain ⟨Ao19, co19, eo19⟩ := Kd.N_slice HO256.out; subst eo19) | ((with_reducible refine gate_callee (f := 10) rfl ?_); refine goesL_ (some 41) rfl rfl Try.func10 (by kernel_rfl) rfl #[.slice Ao19 y254.length co19] rfl (by (try simp only [List.map_toArray, List.map_cons, List.map_nil]); first | done | rfl | (simp only [List.length_drop, List.length_take]; rfl)) ?_; (with_reducible refine (valid_Check.calls _ _ y254 t257 t258 t259 _ ?side1 ?side2 A12.out).mono ?_); (case side1 => repeat (first | exact (Kd.N_reads' HO256.out).2.2 | (with_reducible refine Kd.C_alloc ?_ _) | (with_reducible refine Kd.C_drewN ?_ _) | (with_reducible refine Kd.C_drew ?_))); (case side2 => exact (Kd.N_reads' HO256.out).2.1); rintro e w20 ⟨rfl, hb⟩; refine ⟨_, rfl, ?_⟩; have n0_ := Aside0.mk (Kd.N_below (by (with_reducible repeat (first | apply Kd.N_alloc | apply Kd.N_drewN | apply Kd.N_drew)); exact HO256.out) hb); have n1_ := Aside0.mk (blk_below (g := gb250) (o := .cells #[.int .i64 (wrap64 ((Int.tmod (wrap64 (a0)) 17) + 1)), .int .i64 0, .int .i64 0, .int .i64 0, .int .i64 x251004_5] 33 (0, 0)) (by (with_reducible repeat (first | refine blk_drewN ?_ _ | refine blk_drew ?_ | refine blk_alloc ?_ _)); exact BK250.out) hb); have n2_ := Aside0.mk (below_step (by repeat (first | (with_reducible first | exact HB.out | apply below_alloc | apply pw_below_drewN | apply below_drew1 | refine below_set ?_ GE250.out) | exact HB.out)) hb); clear HO256; clear BK250; clear HB; have HO256 := n0_; have BK250 := n1_; have HB := n2_; clear n0_ n1_ n2_; (try clear hb); (try clear hb2); (try clear hk); (try clear hi)))
              (try simp only [Act.put, List.setIfInBounds_toArray, List.set_cons_zero, List.set_cons_succ])
              go_cut [54] (fun v54 wc => ∃ (kq : Nat) (x54_12 : Bool), v54 = .bool x54_12 ∧ Aside0 (haymowlaw03_ValidEnds.j2 kq (Int.tmod (wrap64 (a1)) 60) t257 t258 t259 x54_12 = some r) ∧ Aside0 (kq ≤ kj5) ∧ Aside0 (wc.heap[gb250]? = some (.cells #[.int .i64 (wrap64 ((Int.tmod (wrap64 (a0)) 17) + 1)), .int .i64 0, .int .i64 0, .int .i64 0, .int .i64 x251004_5] 33 (0, 0))) ∧ Aside0 (Below w.heap.size w wc))
              case first =>
                have H := HC13.out
                clear HC13
                by_cases c21 : (wrap64 ((Int.tmod (wrap64 (a0)) 17) + 1)) = 9
                · rw [if_pos c21] at H
                  have c21b0 : ((wrap64 ((Int.tmod (wrap64 (a0)) 17) + 1)) == 9) = true := beq_iff_eq.mpr c21
                  have c21b1 : ((wrap64 ((Int.tmod (wrap64 (a0)) 17) + 1)) != 9) = false := bne_eq_false_iff_eq.mpr c21
                  clear c21
                  (first | rw [c21b0] | (simp only [i64_w, i32_w]; rw [c21b0]) | skip)
                  have H' := Aside0.mk H
                  clear H
                  go_wp2
                  go_meet
                  case rel => exact ⟨_, (true), (by first | rfl | (simp; done) | (simp [*]; done)), H', ⟨by have := HK1.out; have := HJ5.out; first | omega | exact Nat.le_refl _⟩, ⟨by (with_reducible repeat (first | refine blk_drewN ?_ _ | refine blk_drew ?_ | refine blk_alloc ?_ _)); exact BK250.out⟩, ⟨by repeat (first | (with_reducible first | exact HB.out | apply below_alloc | apply pw_below_drewN | apply below_drew1 | refine below_set ?_ GE250.out) | exact HB.out)⟩⟩
                · rw [if_neg c21] at H
                  have c21b0 : ((wrap64 ((Int.tmod (wrap64 (a0)) 17) + 1)) == 9) = false := beq_eq_false_iff_ne.mpr c21
                  have c21b1 : ((wrap64 ((Int.tmod (wrap64 (a0)) 17) + 1)) != 9) = true := bne_iff_ne.mpr c21
                  (first | rw [c21b0] | (simp only [i64_w, i32_w]; rw [c21b0]) | skip)
                  by_cases c22 : (wrap64 ((Int.tmod (wrap64 (a0)) 17) + 1)) = 16
                  · rw [if_pos c22] at H
                    have c22b0 : ((wrap64 ((Int.tmod (wrap64 (a0)) 17) + 1)) == 16) = true := beq_iff_eq.mpr c22
                    have c22b1 : ((wrap64 ((Int.tmod (wrap64 (a0)) 17) + 1)) != 16) = false := bne_eq_false_iff_eq.mpr c22
                    clear c22
                    have H' := Aside0.mk H
                    clear H
                    go_wp2
                    go_meet
                    case rel => exact ⟨_, (true), (by first | rfl | (simp; done) | (simp [*]; done)), H', ⟨by have := HK1.out; have := HJ5.out; first | omega | exact Nat.le_refl _⟩, ⟨by (with_reducible repeat (first | refine blk_drewN ?_ _ | refine blk_drew ?_ | refine blk_alloc ?_ _)); exact BK250.out⟩, ⟨by repeat (first | (with_reducible first | exact HB.out | apply below_alloc | apply pw_below_drewN | apply below_drew1 | refine below_set ?_ GE250.out) | exact HB.out)⟩⟩
                  · rw [if_neg c22] at H
                    have c22b0 : ((wrap64 ((Int.tmod (wrap64 (a0)) 17) + 1)) == 16) = false := beq_eq_false_iff_ne.mpr c22
                    have c22b1 : ((wrap64 ((Int.tmod (wrap64 (a0)) 17) + 1)) != 16) = true := bne_iff_ne.mpr c22
                    have H' := Aside0.mk H
                    clear H
                    go_wp2
                    go_meet
                    case rel => exact ⟨_, (((wrap64 ((Int.tmod (wrap64 (a0)) 17) + 1)) == 17)), (by first | rfl | (simp; done) | (simp [*]; done)), H', ⟨by have := HK1.out; have := HJ5.out; first | omega | exact Nat.le_refl _⟩, ⟨by (with_reducible repeat (first | refine blk_drewN ?_ _ | refine blk_drew ?_ | refine blk_alloc ?_ _)); exact BK250.out⟩, ⟨by repeat (first | (with_reducible first | exact HB.out | apply below_alloc | apply pw_below_drewN | apply below_drew1 | refine below_set ?_ GE250.out) | exact HB.out)⟩⟩
              case rest =>
                clear HC13
                try clear c1
                try clear c2
                try clear p2
                try clear c3
                try clear c3b0
                try clear c4
                try clear p6
                try clear c7
                try clear c9
                try clear c9b0
                try clear c9b1
                try clear c10
                try clear c11
                try clear c21
                try clear c21b0
                try clear c21b1
                try clear c22
                try clear c22b0
                try clear c22b1
                try clear hcz10_0
                try clear hcz10_1
                try clear hcz10_2
                try clear hcz10_3
                try clear hcz10_4
                try clear hcz14_0
                try clear hcz14_1
                try clear hcz14_2
                try clear hcz14_3
                try clear hcz14_4
                try clear hcz8_0
                try clear hcz8_1
                try clear hcz8_2
                try clear hcz8_3
                try clear hcz8_4
                try clear hfz10_0
                try clear hfz10_1
                try clear hfz10_2
                try clear hfz10_3
                try clear hfz10_4
                try clear hfz14_0
                try clear hfz14_1
                try clear hfz14_2
                try clear hfz14_3
                try clear hfz14_4
                try clear hfz8_0
                try clear hfz8_1
                try clear hfz8_2
                try clear hfz8_3
                try clear hfz8_4
                try clear p2
                try clear p6
                obtain ⟨kq, x54_12, rfl, HA, HJ12, BK250, HB⟩ := hcut
                cases kq with
                | zero => exact absurd HA.out (by simp [haymowlaw03_ValidEnds.j2])
                | succ kj12 =>
                  have H := HA.out
                  clear HA
                  simp only [haymowlaw03_ValidEnds.j2] at H
                  by_cases c23 : x54_12 = true
                  · subst c23
                    have H1 : (if t257 = 0 then (if t258 = 0 then (if t259 = 0 then ((haymowlaw03_awake.f).bind fun t260 => (some t260)) else (some false)) else (some false)) else (some false)) = some r := by rw [if_pos rfl] at H; exact H
                    clear H
                    have H := H1
                    clear H1
                    by_cases c24 : t257 = 0
                    · rw [if_pos c24] at H
                      have c24b0 : (t257 == 0) = true := beq_iff_eq.mpr c24
                      have c24b1 : (t257 != 0) = false := bne_eq_false_iff_eq.mpr c24
                      clear c24
                      by_cases c25 : t258 = 0
                      · rw [if_pos c25] at H
                        have c25b0 : (t258 == 0) = true := beq_iff_eq.mpr c25
                        have c25b1 : (t258 != 0) = false := bne_eq_false_iff_eq.mpr c25
                        clear c25
                        by_cases c26 : t259 = 0
                        · rw [if_pos c26] at H
                          have c26b0 : (t259 == 0) = true := beq_iff_eq.mpr c26
                          have c26b1 : (t259 != 0) = false := bne_eq_false_iff_eq.mpr c26
                          clear c26
                          replace H := Option.bind_eq_some_iff.mp H
                          obtain ⟨t260, A270, H⟩ := H
                          replace H : (some t260) = some r := H
                          have A27 := Aside0.mk A270
                          clear A270
                          obtain rfl := Option.some.inj H
                          go_wp2_with (first | (go_at_call 13; (with_reducible refine (haymowlaw03_awake.calls  t260 _ A27.out).mono ?_); rintro e w28 ⟨rfl, hb⟩; have n0_ := Aside0.mk (blk_below (g := gb250) (o := .cells #[.int .i64 (wrap64 ((Int.tmod (wrap64 (a0)) 17) + 1)), .int .i64 0, .int .i64 0, .int .i64 0, .int .i64 x251004_5] 33 (0, 0)) (by (with_reducible repeat (first | refine blk_drewN ?_ _ | refine blk_drew ?_ | refine blk_alloc ?_ _)); exact BK250.out) hb); have n1_ := Aside0.mk (below_step (by repeat (first | (with_reducible first | exact HB.out | apply below_alloc | apply pw_below_drewN | apply below_drew1 | refine below_set ?_ GE250.out) | exact HB.out)) hb); clear BK250; clear HB; have BK250 := n0_; have HB := n1_; clear n0_ n1_; (try clear hb); (try clear hb2); (try clear hk); (try clear hi)))
                          go_ret
                          exact ⟨by first | rfl | (simp [errW_none, errW_some] <;> rfl) | (simp [*, errW_none, errW_some] <;> rfl), by repeat (first | (with_reducible first | exact HB.out | apply below_alloc | apply pw_below_drewN | apply below_drew1 | refine below_set ?_ GE250.out) | exact HB.out)⟩
                        · rw [if_neg c26] at H
                          have c26b0 : (t259 == 0) = false := beq_eq_false_iff_ne.mpr c26
                          have c26b1 : (t259 != 0) = true := bne_iff_ne.mpr c26
                          obtain rfl := Option.some.inj H
                          go_wp2
                          go_ret
                          exact ⟨by first | rfl | (simp [errW_none, errW_some] <;> rfl) | (simp [*, errW_none, errW_some] <;> rfl), by repeat (first | (with_reducible first | exact HB.out | apply below_alloc | apply pw_below_drewN | apply below_drew1 | refine below_set ?_ GE250.out) | exact HB.out)⟩
                      · rw [if_neg c25] at H
                        have c25b0 : (t258 == 0) = false := beq_eq_false_iff_ne.mpr c25
                        have c25b1 : (t258 != 0) = true := bne_iff_ne.mpr c25
                        obtain rfl := Option.some.inj H
                        go_wp2
                        go_ret
                        exact ⟨by first | rfl | (simp [errW_none, errW_some] <;> rfl) | (simp [*, errW_none, errW_some] <;> rfl), by repeat (first | (with_reducible first | exact HB.out | apply below_alloc | apply pw_below_drewN | apply below_drew1 | refine below_set ?_ GE250.out) | exact HB.out)⟩
                    · rw [if_neg c24] at H
                      have c24b0 : (t257 == 0) = false := beq_eq_false_iff_ne.mpr c24
                      have c24b1 : (t257 != 0) = true := bne_iff_ne.mpr c24
                      obtain rfl := Option.some.inj H
                      go_wp2
                      go_ret
                      exact ⟨by first | rfl | (simp [errW_none, errW_some] <;> rfl) | (simp [*, errW_none, errW_some] <;> rfl), by repeat (first | (with_reducible first | exact HB.out | apply below_alloc | apply pw_below_drewN | apply below_drew1 | refine below_set ?_ GE250.out) | exact HB.out)⟩
                  · replace c23 := Bool.eq_false_iff.mpr c23
                    subst c23
                    have H1 : (if t257 = 0 then (if t258 = (Int.tmod (wrap64 (a1)) 60) then (if t259 = 11 then ((haymowlaw03_awake.f).bind fun t261 => (some t261)) else (some false)) else (some false)) else (some false)) = some r := by rw [if_neg (show ¬ (false = true) by decide)] at H; exact H
                    clear H
                    have H := H1
                    clear H1
                    by_cases c29 : t257 = 0
                    · rw [if_pos c29] at H
                      have c29b0 : (t257 == 0) = true := beq_iff_eq.mpr c29
                      have c29b1 : (t257 != 0) = false := bne_eq_false_iff_eq.mpr c29
                      clear c29
                      by_cases c30 : t258 = (Int.tmod (wrap64 (a1)) 60)
                      · rw [if_pos c30] at H
                        have c30b0 : (t258 == (Int.tmod (wrap64 (a1)) 60)) = true := beq_iff_eq.mpr c30
                        have c30b1 : (t258 != (Int.tmod (wrap64 (a1)) 60)) = false := bne_eq_false_iff_eq.mpr c30
                        clear c30
                        by_cases c31 : t259 = 11
                        · rw [if_pos c31] at H
                          have c31b0 : (t259 == 11) = true := beq_iff_eq.mpr c31
                          have c31b1 : (t259 != 11) = false := bne_eq_false_iff_eq.mpr c31
                          clear c31
                          replace H := Option.bind_eq_some_iff.mp H
                          obtain ⟨t261, A320, H⟩ := H
                          replace H : (some t261) = some r := H
                          have A32 := Aside0.mk A320
                          clear A320
                          obtain rfl := Option.some.inj H
                          go_wp2_with (first | (go_at_call 13; (with_reducible refine (haymowlaw03_awake.calls  t261 _ A32.out).mono ?_); rintro e w33 ⟨rfl, hb⟩; have n0_ := Aside0.mk (blk_below (g := gb250) (o := .cells #[.int .i64 (wrap64 ((Int.tmod (wrap64 (a0)) 17) + 1)), .int .i64 0, .int .i64 0, .int .i64 0, .int .i64 x251004_5] 33 (0, 0)) (by (with_reducible repeat (first | refine blk_drewN ?_ _ | refine blk_drew ?_ | refine blk_alloc ?_ _)); exact BK250.out) hb); have n1_ := Aside0.mk (below_step (by repeat (first | (with_reducible first | exact HB.out | apply below_alloc | apply pw_below_drewN | apply below_drew1 | refine below_set ?_ GE250.out) | exact HB.out)) hb); clear BK250; clear HB; have BK250 := n0_; have HB := n1_; clear n0_ n1_; (try clear hb); (try clear hb2); (try clear hk); (try clear hi)))
                          go_ret
                          exact ⟨by first | rfl | (simp [errW_none, errW_some] <;> rfl) | (simp [*, errW_none, errW_some] <;> rfl), by repeat (first | (with_reducible first | exact HB.out | apply below_alloc | apply pw_below_drewN | apply below_drew1 | refine below_set ?_ GE250.out) | exact HB.out)⟩
                        · rw [if_neg c31] at H
                          have c31b0 : (t259 == 11) = false := beq_eq_false_iff_ne.mpr c31
                          have c31b1 : (t259 != 11) = true := bne_iff_ne.mpr c31
                          obtain rfl := Option.some.inj H
                          go_wp2
                          go_ret
                          exact ⟨by first | rfl | (simp [errW_none, errW_some] <;> rfl) | (simp [*, errW_none, errW_some] <;> rfl), by repeat (first | (with_reducible first | exact HB.out | apply below_alloc | apply pw_below_drewN | apply below_drew1 | refine below_set ?_ GE250.out) | exact HB.out)⟩
                      · rw [if_neg c30] at H
                        have c30b0 : (t258 == (Int.tmod (wrap64 (a1)) 60)) = false := beq_eq_false_iff_ne.mpr c30
                        have c30b1 : (t258 != (Int.tmod (wrap64 (a1)) 60)) = true := bne_iff_ne.mpr c30
                        obtain rfl := Option.some.inj H
                        go_wp2
                        go_ret
                        exact ⟨by first | rfl | (simp [errW_none, errW_some] <;> rfl) | (simp [*, errW_none, errW_some] <;> rfl), by repeat (first | (with_reducible first | exact HB.out | apply below_alloc | apply pw_below_drewN | apply below_drew1 | refine below_set ?_ GE250.out) | exact HB.out)⟩
                    · rw [if_neg c29] at H
                      have c29b0 : (t257 == 0) = false := beq_eq_false_iff_ne.mpr c29
                      have c29b1 : (t257 != 0) = true := bne_iff_ne.mpr c29
                      obtain rfl := Option.some.inj H
                      go_wp2
                      go_ret
                      exact ⟨by first | rfl | (simp [errW_none, errW_some] <;> rfl) | (simp [*, errW_none, errW_some] <;> rfl), by repeat (first | (with_reducible first | exact HB.out | apply below_alloc | apply pw_below_drewN | apply below_drew1 | refine below_set ?_ GE250.out) | exact HB.out)⟩
            · rw [if_neg c11] at H
              exact absurd H (by simp)

/-- THE ONE PURE STATEMENT of haymowlaw03_ValidEnds: yours. -/
def haymowlaw03_ValidEnds.Pure : Prop := ∀ (a0 : Int) (a1 : Int), (Lit.int .u8 a0).wf = true → (Lit.int .u8 a1).wf = true → ∃ k, haymowlaw03_ValidEnds.f k a0 a1 = some true
theorem haymowlaw03_ValidEnds.walk (P : haymowlaw03_ValidEnds.Pure) (a0 : Int) (a1 : Int) (w : World) (w0 : (Lit.int .u8 a0).wf = true) (w1 : (Lit.int .u8 a1).wf = true) :
    Calls Try.prog 7 #[.int .u8 a0, .int .u8 a1] w fun e w' => e = .returned (.bool true) ∧ Below w.heap.size w w' := by
  obtain ⟨k, h⟩ := P a0 a1 w0 w1
  refine (haymowlaw03_ValidEnds.calls k a0 a1 true w h).mono ?_
  rintro e w' ⟨rfl, hd⟩
  exact ⟨rfl, hd⟩

end Go.Proofs.Ytkbbgkhanmmhpaa.H
