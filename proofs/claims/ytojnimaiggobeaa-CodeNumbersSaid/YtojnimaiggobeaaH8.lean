-- made by this session's gen.py over the kit's print.py; not trusted: Lean checks it
import Derived.Test.YtojnimaiggobeaaH0
import Derived.Test.YtojnimaiggobeaaH7
namespace Go.Proofs.Ytojnimaiggobeaa.H
open Go.RowKit Go.Proofs.YtojnimaiggobeaaW.PrintWords Go.Proofs.YtojnimaiggobeaaW.PrintLast Go.Proofs.YtojnimaiggobeaaW.PrintMore
attribute [local go_sem] max2_int min2_int max_two min_two max_three min_three max_four min_four   -- for this text's walks alone
set_option linter.unusedVariables false
set_option linter.unusedSimpArgs false

/-! ### haymowref02_Write: function 12 -/
mutual
def haymowref02_Write.l0 : Nat → List (S51) → List Int → Int → Option (List Int × Bool)
  | 0, _, _, _ => none
  | k + 1, x0, x4, x5 => if x5 < (x0.length : Int) then (if 0 ≤ x5 then ((haymowref02_fits.f ((rd_T51 x0 x5).f0)).bind fun t120 => (if t120 = true then (haymowref02_Write.j1 k x0 x4 x5 (decide ((((rd_T51 x0 x5).f1).length : Int) > 255)) ((rd_T51 x0 x5).f0) ((rd_T51 x0 x5).f1)) else (haymowref02_Write.j1 k x0 x4 x5 true ((rd_T51 x0 x5).f0) ((rd_T51 x0 x5).f1)))) else (none)) else (some (x4, true))
def haymowref02_Write.j1 : Nat → List (S51) → List Int → Int → Bool → Int → List (S56) → Option (List Int × Bool)
  | 0, _, _, _, _, _, _ => none
  | k + 1, x0, x4, x5, x36, x120000, x120001 => if x36 = true then (some (([] : List Int), false)) else ((some (([(x120000) % 256, ((x120001.length : Int)) % 256] : List Int) : List Int)).bind fun y121 => (if x4.length + y121.length < 140737488355328 then (haymowref02_Write.l1 k x0 (x4 ++ y121) x5 0 x120000 x120001) else (none)))
def haymowref02_Write.l1 : Nat → List (S51) → List Int → Int → Int → Int → List (S56) → Option (List Int × Bool)
  | 0, _, _, _, _, _, _ => none
  | k + 1, x0, x4, x5, x7, x120000, x120001 => if x7 < (x120001.length : Int) then (if 0 ≤ x7 then ((haymowref02_fits.f ((rd_T56 x120001 x7).f0)).bind fun t129 => (if t129 = true then ((haymowref02_fits.f ((rd_T56 x120001 x7).f1)).bind fun t130 => (if t130 = true then ((haymowref02_fits.f ((rd_T56 x120001 x7).f2)).bind fun t131 => (if t131 = true then ((haymowref02_fits.f ((rd_T56 x120001 x7).f3)).bind fun t132 => (if t132 = true then (if ((rd_T56 x120001 x7).f4) < (-2147483648) then (haymowref02_Write.j3 k x0 x4 x5 x7 true x120000 x120001 ((rd_T56 x120001 x7).f0) ((rd_T56 x120001 x7).f1) ((rd_T56 x120001 x7).f2) ((rd_T56 x120001 x7).f3) ((rd_T56 x120001 x7).f4)) else (haymowref02_Write.j3 k x0 x4 x5 x7 (decide (((rd_T56 x120001 x7).f4) > 2147483647)) x120000 x120001 ((rd_T56 x120001 x7).f0) ((rd_T56 x120001 x7).f1) ((rd_T56 x120001 x7).f2) ((rd_T56 x120001 x7).f3) ((rd_T56 x120001 x7).f4))) else (haymowref02_Write.j3 k x0 x4 x5 x7 true x120000 x120001 ((rd_T56 x120001 x7).f0) ((rd_T56 x120001 x7).f1) ((rd_T56 x120001 x7).f2) ((rd_T56 x120001 x7).f3) ((rd_T56 x120001 x7).f4)))) else (haymowref02_Write.j3 k x0 x4 x5 x7 true x120000 x120001 ((rd_T56 x120001 x7).f0) ((rd_T56 x120001 x7).f1) ((rd_T56 x120001 x7).f2) ((rd_T56 x120001 x7).f3) ((rd_T56 x120001 x7).f4)))) else (haymowref02_Write.j3 k x0 x4 x5 x7 true x120000 x120001 ((rd_T56 x120001 x7).f0) ((rd_T56 x120001 x7).f1) ((rd_T56 x120001 x7).f2) ((rd_T56 x120001 x7).f3) ((rd_T56 x120001 x7).f4)))) else (haymowref02_Write.j3 k x0 x4 x5 x7 true x120000 x120001 ((rd_T56 x120001 x7).f0) ((rd_T56 x120001 x7).f1) ((rd_T56 x120001 x7).f2) ((rd_T56 x120001 x7).f3) ((rd_T56 x120001 x7).f4)))) else (none)) else (haymowref02_Write.l0 k x0 x4 (wrap64 (x5 + 1)))
def haymowref02_Write.j3 : Nat → List (S51) → List Int → Int → Int → Bool → Int → List (S56) → Int → Int → Int → Int → Int → Option (List Int × Bool)
  | 0, _, _, _, _, _, _, _, _, _, _, _, _ => none
  | k + 1, x0, x4, x5, x7, x90, x120000, x120001, x129000, x129001, x129002, x129003, x129004 => if x90 = true then (some (([] : List Int), false)) else (if x129004 < 0 then ((some (([(x129000) % 256, (x129001) % 256, (x129002) % 256, (x129003) % 256, (Int.tmod (wrap64 (x129004 + 4294967296)) 256) % 256, (Int.tmod (wrap64 (Int.tdiv (wrap64 (x129004 + 4294967296)) 256)) 256) % 256, (Int.tmod (wrap64 (Int.tdiv (wrap64 (x129004 + 4294967296)) 65536)) 256) % 256, (wrap64 (Int.tdiv (wrap64 (x129004 + 4294967296)) 16777216)) % 256] : List Int) : List Int)).bind fun y133 => (if x4.length + y133.length < 140737488355328 then (haymowref02_Write.l1 k x0 (x4 ++ y133) x5 (wrap64 (x7 + 1)) x120000 x120001) else (none))) else ((some (([(x129000) % 256, (x129001) % 256, (x129002) % 256, (x129003) % 256, (Int.tmod x129004 256) % 256, (Int.tmod (wrap64 (Int.tdiv x129004 256)) 256) % 256, (Int.tmod (wrap64 (Int.tdiv x129004 65536)) 256) % 256, (wrap64 (Int.tdiv x129004 16777216)) % 256] : List Int) : List Int)).bind fun y139 => (if x4.length + y139.length < 140737488355328 then (haymowref02_Write.l1 k x0 (x4 ++ y139) x5 (wrap64 (x7 + 1)) x120000 x120001) else (none))))
end
def haymowref02_Write.f (k : Nat) (l0 : List (S51)) : Option (List Int × Bool) := if (l0.length : Int) > 255 then (some (([] : List Int), false)) else (haymowref02_Write.l0 k l0 (([72, ((l0.length : Int)) % 256] : List Int)) 0)
theorem haymowref02_Write.mono_l : ∀ k, (∀ y0 y1 y2, LeO (haymowref02_Write.l0 k y0 y1 y2) (haymowref02_Write.l0 (k + 1) y0 y1 y2)) ∧ (∀ y0 y1 y2 y3 y4 y5, LeO (haymowref02_Write.j1 k y0 y1 y2 y3 y4 y5) (haymowref02_Write.j1 (k + 1) y0 y1 y2 y3 y4 y5)) ∧ (∀ y0 y1 y2 y3 y4 y5, LeO (haymowref02_Write.l1 k y0 y1 y2 y3 y4 y5) (haymowref02_Write.l1 (k + 1) y0 y1 y2 y3 y4 y5)) ∧ (∀ y0 y1 y2 y3 y4 y5 y6 y7 y8 y9 y10 y11, LeO (haymowref02_Write.j3 k y0 y1 y2 y3 y4 y5 y6 y7 y8 y9 y10 y11) (haymowref02_Write.j3 (k + 1) y0 y1 y2 y3 y4 y5 y6 y7 y8 y9 y10 y11))
  | 0 => ⟨fun _ _ _ r h => by simp [haymowref02_Write.l0] at h, fun _ _ _ _ _ _ r h => by simp [haymowref02_Write.j1] at h, fun _ _ _ _ _ _ r h => by simp [haymowref02_Write.l1] at h, fun _ _ _ _ _ _ _ _ _ _ _ _ r h => by simp [haymowref02_Write.j3] at h⟩
  | k + 1 => by
    obtain ⟨ih0, ih1, ih2, ih3⟩ := haymowref02_Write.mono_l k
    refine ⟨?_, ?_, ?_, ?_⟩
    · intro y0 y1 y2
      unfold haymowref02_Write.l0
      repeat' first
      | (with_reducible exact ih0 _ _ _)
      | (with_reducible exact ih1 _ _ _ _ _ _)
      | (with_reducible exact ih2 _ _ _ _ _ _)
      | (with_reducible exact ih3 _ _ _ _ _ _ _ _ _ _ _ _)
      | (with_reducible exact LeO.refl _)
      | (with_reducible exact LeO.none _)
      | (with_reducible refine LeO.ite ?_ ?_)
      | (with_reducible refine LeO.bind ?_ (fun _ => ?_))
      | exact ih0 _ _ _
      | exact ih1 _ _ _ _ _ _
      | exact ih2 _ _ _ _ _ _
      | exact ih3 _ _ _ _ _ _ _ _ _ _ _ _
      | exact LeO.none _
      | refine LeO.ite ?_ ?_
      | refine LeO.bind ?_ (fun _ => ?_)
    · intro y0 y1 y2 y3 y4 y5
      unfold haymowref02_Write.j1
      repeat' first
      | (with_reducible exact ih0 _ _ _)
      | (with_reducible exact ih1 _ _ _ _ _ _)
      | (with_reducible exact ih2 _ _ _ _ _ _)
      | (with_reducible exact ih3 _ _ _ _ _ _ _ _ _ _ _ _)
      | (with_reducible exact LeO.refl _)
      | (with_reducible exact LeO.none _)
      | (with_reducible refine LeO.ite ?_ ?_)
      | (with_reducible refine LeO.bind ?_ (fun _ => ?_))
      | exact ih0 _ _ _
      | exact ih1 _ _ _ _ _ _
      | exact ih2 _ _ _ _ _ _
      | exact ih3 _ _ _ _ _ _ _ _ _ _ _ _
      | exact LeO.none _
      | refine LeO.ite ?_ ?_
      | refine LeO.bind ?_ (fun _ => ?_)
    · intro y0 y1 y2 y3 y4 y5
      unfold haymowref02_Write.l1
      repeat' first
      | (with_reducible exact ih0 _ _ _)
      | (with_reducible exact ih1 _ _ _ _ _ _)
      | (with_reducible exact ih2 _ _ _ _ _ _)
      | (with_reducible exact ih3 _ _ _ _ _ _ _ _ _ _ _ _)
      | (with_reducible exact LeO.refl _)
      | (with_reducible exact LeO.none _)
      | (with_reducible refine LeO.ite ?_ ?_)
      | (with_reducible refine LeO.bind ?_ (fun _ => ?_))
      | exact ih0 _ _ _
      | exact ih1 _ _ _ _ _ _
      | exact ih2 _ _ _ _ _ _
      | exact ih3 _ _ _ _ _ _ _ _ _ _ _ _
      | exact LeO.none _
      | refine LeO.ite ?_ ?_
      | refine LeO.bind ?_ (fun _ => ?_)
    · intro y0 y1 y2 y3 y4 y5 y6 y7 y8 y9 y10 y11
      unfold haymowref02_Write.j3
      repeat' first
      | (with_reducible exact ih0 _ _ _)
      | (with_reducible exact ih1 _ _ _ _ _ _)
      | (with_reducible exact ih2 _ _ _ _ _ _)
      | (with_reducible exact ih3 _ _ _ _ _ _ _ _ _ _ _ _)
      | (with_reducible exact LeO.refl _)
      | (with_reducible exact LeO.none _)
      | (with_reducible refine LeO.ite ?_ ?_)
      | (with_reducible refine LeO.bind ?_ (fun _ => ?_))
      | exact ih0 _ _ _
      | exact ih1 _ _ _ _ _ _
      | exact ih2 _ _ _ _ _ _
      | exact ih3 _ _ _ _ _ _ _ _ _ _ _ _
      | exact LeO.none _
      | refine LeO.ite ?_ ?_
      | refine LeO.bind ?_ (fun _ => ?_)
theorem haymowref02_Write.mono : ∀ a0 k, LeO (haymowref02_Write.f k a0) (haymowref02_Write.f (k + 1) a0) := by
  intro a0 k
  obtain ⟨ih0, ih1, ih2, ih3⟩ := haymowref02_Write.mono_l k
  unfold haymowref02_Write.f
  repeat' first
      | (with_reducible exact ih0 _ _ _)
      | (with_reducible exact ih1 _ _ _ _ _ _)
      | (with_reducible exact ih2 _ _ _ _ _ _)
      | (with_reducible exact ih3 _ _ _ _ _ _ _ _ _ _ _ _)
      | (with_reducible exact LeO.refl _)
      | (with_reducible exact LeO.none _)
      | (with_reducible refine LeO.ite ?_ ?_)
      | (with_reducible refine LeO.bind ?_ (fun _ => ?_))
      | exact ih0 _ _ _
      | exact ih1 _ _ _ _ _ _
      | exact ih2 _ _ _ _ _ _
      | exact ih3 _ _ _ _ _ _ _ _ _ _ _ _
      | exact LeO.none _
      | refine LeO.ite ?_ ?_
      | refine LeO.bind ?_ (fun _ => ?_)
set_option maxHeartbeats 8000000 in
set_option maxRecDepth 100000 in
theorem haymowref02_Write.calls (k : Nat) (A0 : Option Addr) (c0 : Nat) (l0 : List (S51)) (r1 : List Int) (r2 : Bool) (w : World) (hr0 : Kd.C k51 w A0 l0.length l0) (hc0 : l0.length ≤ c0) (h : haymowref02_Write.f k l0 = some (r1, r2)) :
    Calls Try.prog 12 #[.slice A0 l0.length c0] w fun e w' => ∃ v0_ : Value, e = .returned (.tuple #[v0_, .bool r2]) ∧ Kd.R (Kd.int .u8) 5 w' w.heap.size (fun _ => True) v0_ r1 ∧ Below w.heap.size w w' := by
  have hu51 := Try.underlying51
  have hu56 := Try.underlying56
  have HR0 := Aside0.mk hr0
  have HC0 := Aside0.mk hc0
  clear hr0 hc0
  have HB := Aside0.mk (Below.refl w.heap.size w)
  have H : (if (l0.length : Int) > 255 then (some (([] : List Int), false)) else (haymowref02_Write.l0 k l0 (([72, ((l0.length : Int)) % 256] : List Int)) 0)) = some (r1, r2) := h
  clear h
  by_cases c2 : (l0.length : Int) > 255
  · rw [if_pos c2] at H
    have c2b0 : decide (255 < (l0.length : Int)) = true := decide_eq_true c2
    have c2b1 : decide (255 < l0.length) = true := decide_eq_true (by omega)
    clear c2
    simp only [Option.some.injEq, Prod.mk.injEq] at H
    obtain ⟨rfl, rfl⟩ := H
    go_enter Try.func12, Try.ntmps12
    go_wp2
    go_ret2
    exact ⟨_, by first | rfl | (simp [errW_none, errW_some] <;> rfl) | (simp [*, errW_none, errW_some] <;> rfl), by first | exact Kd.R_nil _ _ _ _ _ | exact Kd.N_nil _ _ _ _ _ | exact Kd.V_nil _ _ _ _ _ | exact Kd.Q_nil _ _ _ _ _ | exact Kd.S_nil _ _ _ _ _, by repeat (first | (with_reducible first | exact HB.out | apply below_alloc | apply pw_below_drewN | apply below_drew1) | exact HB.out)⟩
  · rw [if_neg c2] at H
    have c2b0 : decide (255 < (l0.length : Int)) = false := decide_eq_false c2
    have c2b1 : decide (255 < l0.length) = false := decide_eq_false (by omega)
    clear c2
    obtain ⟨y115, hy115⟩ : ∃ y_ : List Int, y_ = (([72, ((l0.length : Int)) % 256] : List Int)) := ⟨_, rfl⟩
    replace H : (haymowref02_Write.l0 k l0 y115 0) = some (r1, r2) := by first | (rw [hy115]; with_reducible exact H) | (have H2_ := (Option.bind_some _ _).symm.trans H; rw [hy115]; with_reducible exact H2_) | (have H2_ := (Option.bind_some _ _).symm.trans H; with_reducible exact H2_) | with_reducible exact H | (rw [hy115]; exact H) | exact H
    have Ny115 := Aside0.mk hy115
    clear hy115
    have H' := Aside0.mk H
    clear H
    go_enter Try.func12, Try.ntmps12
    go_wp2_with (first | ((with_reducible refine gate_dst (N := 16) rfl ?_); (try (refine gate_guard (by rfl) ?_; dsimp only)); refine Kd.R_lit (Kd.int .u8) _ 5 ?hg (N := 16) ?hd (xs := ([72, ((l0.length : Int)) % 256] : List Int)) (inner := [.int .u8 72, .int .u8 (((l0.length : Int)) % 256)]) (ok := fun _ => True) (okp := fun _ => True) ?hr ?hp (fun _ hk => hk) trivial (Below.refl _ _) (Nat.le_refl _) (by simp) ?_; (case hd => rfl); (case hg => rfl); (case hr => first | (go_simp; done) | (go_simp; rfl)); (case hp => exact (Reps.one (show Kd.M (Kd.int .u8) _ _ _ 72 [.int .u8 72] from rfl) (Reps.one (show Kd.M (Kd.int .u8) _ _ _ (((l0.length : Int)) % 256) [.int .u8 (((l0.length : Int)) % 256)] from rfl) (Reps.none _ _)))); intro v116 w3 ho4 hb hg_ hnew_; clear hg_ hnew_; (first | rw [← Ny115.out] at ho4 | (simp only [Int.reduceToNat] at ho4; rw [← Ny115.out] at ho4)); have n0_ := Aside0.mk (Kd.R_lower ho4 (below_size (by repeat (first | (with_reducible first | exact HB.out | apply below_alloc | apply pw_below_drewN | apply below_drew1) | exact HB.out)))); have n1_ := Aside0.mk (below_step (by repeat (first | (with_reducible first | exact HB.out | apply below_alloc | apply pw_below_drewN | apply below_drew1) | exact HB.out)) hb); clear HB; have HO117 := n0_; have HB := n1_; clear n0_ n1_; clear hb ho4))
    go_loopg [4, 5] k (fun kq v4 v5 w' => ∃ (x4_1 : List Int) (x5_1 : Int), v5 = .int .i64 x5_1 ∧ Aside0 (haymowref02_Write.l0 kq l0 x4_1 x5_1 = some (r1, r2)) ∧ Aside0 (kq ≤ k) ∧ Aside0 (Kd.R (Kd.int .u8) 5 w' w.heap.size (fun _ => True) v4 x4_1) ∧ Aside0 (Below w.heap.size w w'))
    case atStart => exact ⟨(y115), (0), (by first | rfl | (simp; done) | (simp [*]; done)), H', ⟨Nat.le_refl _⟩, ⟨by (with_reducible repeat (first | apply Kd.R_alloc | apply Kd.R_drewN | apply Kd.R_drew)); exact HO117.out⟩, ⟨by repeat (first | (with_reducible first | exact HB.out | apply below_alloc | apply pw_below_drewN | apply below_drew1) | exact HB.out)⟩⟩
    case round =>
      clear H'
      try clear c1
      try clear c2
      try clear c2b0
      try clear c2b1
      try clear p2
      obtain ⟨x4_1, x5_1, rfl, HA, HK1, HO_4, HB⟩ := hrel
      cases gk with
      | zero => exact absurd HA.out (by simp [haymowref02_Write.l0])
      | succ k1 =>
        have H := HA.out
        clear HA
        simp only [haymowref02_Write.l0] at H
        by_cases c5 : x5_1 < (l0.length : Int)
        · rw [if_pos c5] at H
          have c5b0 : decide (x5_1 < (l0.length : Int)) = true := decide_eq_true c5
          clear c5
          by_cases c6 : 0 ≤ x5_1
          · rw [if_pos c6] at H
            have c6b0 : decide (0 ≤ x5_1) = true := decide_eq_true c6
            clear c6
            have HC7 := Aside0.mk H
            clear H
            have p118 : 0 ≤ (x5_1 : Int) := of_decide_eq_true (by first | (with_reducible assumption) | assumption)
            have q118 : x5_1 < (l0.length : Int) := of_decide_eq_true (by first | (with_reducible assumption) | assumption)
            obtain ⟨ad118, A118_1, c118_1, e118, hx118_0, hx118_1, hl118_1, hi118_1⟩ := at_T51 HR0.out x5_1 p118 q118
            cases e118
            replace hx118_0 := (HB.out.cell (World.block_lt_of_cell? w _ hx118_0)).trans hx118_0
            replace hx118_1 := (HB.out.cell (World.block_lt_of_cell? w _ hx118_1)).trans hx118_1
            have HR118_1 := Aside0.mk hi118_1
            have HC118_1 := Aside0.mk hl118_1
            clear hi118_1 hl118_1
            replace p118 := eq_true p118
            replace q118 := eq_true q118
            go_upto_region 8 with (first | ((with_reducible refine gate_dst (N := 6) rfl ?_); (try (refine gate_guard (by rfl) ?_; dsimp only)); refine box_event ?hg (N := 6) ?hd (cs := #[.int .i64 0, .slice none 0 0]) (t := 51) ?hr ?_; (case hd => rfl); (case hg => rfl); (case hr => first | (go_simp; done) | (go_simp; rfl)); intro gb119 hg w8 hbox hb; have n0_ := Aside0.mk (Kd.R_below (by (with_reducible repeat (first | apply Kd.R_alloc | apply Kd.R_drewN | apply Kd.R_drew)); exact HO_4.out) hb); have n1_ := Aside0.mk (below_step (by repeat (first | (with_reducible first | exact HB.out | apply below_alloc | apply pw_below_drewN | apply below_drew1) | exact HB.out)) hb); have n2_ := Aside0.mk (hbox); have n3_ := Aside0.mk ((by rw [hg]; exact (below_size (by repeat (first | (with_reducible first | exact HB.out | apply below_alloc | apply pw_below_drewN | apply below_drew1) | exact HB.out))) : w.heap.size ≤ gb119)); have n4_ := Aside0.mk ((by rw [hg]; exact (below_size (by repeat (first | (with_reducible first | exact HB.out | apply below_alloc | apply pw_below_drewN | apply below_drew1) | exact HB.out))) : w.heap.size ≤ gb119)); clear HO_4; clear HB; have HO_4 := n0_; have HB := n1_; have BK119 := n2_; have GW119 := n3_; have GE119 := n4_; clear n0_ n1_ n2_ n3_ n4_; clear hb hbox hg; have hcz9_0 : w8.cell? ⟨gb119, 0, none⟩ = some (.int .i64 0) := (blk_cell BK119.out 0).trans rfl; have hcz9_1 : w8.cell? ⟨gb119, 1, none⟩ = some (.slice none 0 0) := (blk_cell BK119.out 1).trans rfl; have hfz9_0 := blk_frozen BK119.out 0; have hfz9_1 := blk_frozen BK119.out 1))
            (try simp only [Act.put, List.setIfInBounds_toArray, List.set_cons_zero, List.set_cons_succ])
            go_cut [36] (fun v36 wc => ∃ (kq : Nat) (x36_6 : Bool), v36 = .bool x36_6 ∧ Aside0 (haymowref02_Write.j1 kq l0 x4_1 x5_1 x36_6 ((rd_T51 l0 x5_1).f0) ((rd_T51 l0 x5_1).f1) = some (r1, r2)) ∧ Aside0 (kq ≤ k1) ∧ Aside0 (Kd.R (Kd.int .u8) 5 wc w.heap.size (fun _ => True) u4 x4_1) ∧ Aside0 (wc.heap[gb119]? = some (.cells #[.int .i64 ((rd_T51 l0 x5_1).f0), (.slice A118_1 ((rd_T51 l0 x5_1).f1).length c118_1)] 51 (0, 0))) ∧ Aside0 (Below w.heap.size w wc))
            case first =>
              have H := HC7.out
              clear HC7
              replace H := Option.bind_eq_some_iff.mp H
              obtain ⟨t120, A100, H⟩ := H
              replace H : (if t120 = true then (haymowref02_Write.j1 k1 l0 x4_1 x5_1 (decide ((((rd_T51 l0 x5_1).f1).length : Int) > 255)) ((rd_T51 l0 x5_1).f0) ((rd_T51 l0 x5_1).f1)) else (haymowref02_Write.j1 k1 l0 x4_1 x5_1 true ((rd_T51 l0 x5_1).f0) ((rd_T51 l0 x5_1).f1))) = some (r1, r2) := H
              have A10 := Aside0.mk A100
              clear A100
              by_cases c11 : t120 = true
              · subst c11
                have H1 : (haymowref02_Write.j1 k1 l0 x4_1 x5_1 (decide ((((rd_T51 l0 x5_1).f1).length : Int) > 255)) ((rd_T51 l0 x5_1).f0) ((rd_T51 l0 x5_1).f1)) = some (r1, r2) := by rw [if_pos rfl] at H; exact H
                clear H
                have H := H1
                clear H1
                have H' := Aside0.mk H
                clear H
                have hcz12_0 : w8.cell? ⟨gb119, 0, none⟩ = some (.int .i64 0) := (blk_cell BK119.out 0).trans rfl
                have hcz12_1 : w8.cell? ⟨gb119, 1, none⟩ = some (.slice none 0 0) := (blk_cell BK119.out 1).trans rfl
                have hfz12_0 := blk_frozen BK119.out 0
                have hfz12_1 := blk_frozen BK119.out 1
                go_wp2_with (first | ((with_reducible refine gate_callee (f := 21) rfl ?_); refine goesL_ (some 29) rfl rfl Try.func21 (by kernel_rfl) rfl #[.int .i64 ((rd_T51 l0 x5_1).f0)] rfl (by (try simp only [List.map_toArray, List.map_cons, List.map_nil]); first | done | rfl | (simp only [List.length_drop, List.length_take]; rfl)) ?_; (with_reducible refine (haymowref02_fits.calls ((rd_T51 l0 x5_1).f0) true _ A10.out).mono ?_); rintro e w' ⟨rfl, ⟨nd, rfl⟩⟩; refine ⟨_, rfl, ?_⟩))
                go_meet
                case rel => exact ⟨_, (decide ((((rd_T51 l0 x5_1).f1).length : Int) > 255)), (by first | rfl | (simp; done) | (simp [*]; done)), H', ⟨by have := HK1.out; first | omega | exact Nat.le_refl _⟩, ⟨by (with_reducible repeat (first | apply Kd.R_alloc | apply Kd.R_drewN | apply Kd.R_drew)); exact Kd.R_mono (Kd.R_far (p := ⟨gb119, 1, none⟩) (Kd.R_far (p := ⟨gb119, 0, none⟩) (Kd.R_types HO_4.out BK119.out (by decide)) (fun _ hk => hk.2) (.int .i64 ((rd_T51 l0 x5_1).f0))) (fun _ hk => hk.2) (.slice A118_1 ((rd_T51 l0 x5_1).f1).length c118_1)) (fun _ hk => trivial)⟩, ⟨by (with_reducible repeat (first | refine blk_drewN ?_ _ | refine blk_drew ?_ | refine blk_alloc ?_ _)); refine blk_put (cs := #[.int .i64 ((rd_T51 l0 x5_1).f0), .slice none 0 0]) ?_ 1 _ rfl; (with_reducible repeat (first | refine blk_drewN ?_ _ | refine blk_drew ?_ | refine blk_alloc ?_ _)); refine blk_put (cs := #[.int .i64 0, .slice none 0 0]) ?_ 0 _ rfl; (with_reducible repeat (first | refine blk_drewN ?_ _ | refine blk_drew ?_ | refine blk_alloc ?_ _)); exact BK119.out⟩, ⟨by repeat (first | (with_reducible first | exact HB.out | apply below_alloc | apply pw_below_drewN | apply below_drew1 | refine below_set ?_ GE119.out) | exact HB.out)⟩⟩
              · replace c11 := Bool.eq_false_iff.mpr c11
                subst c11
                have H1 : (haymowref02_Write.j1 k1 l0 x4_1 x5_1 true ((rd_T51 l0 x5_1).f0) ((rd_T51 l0 x5_1).f1)) = some (r1, r2) := by rw [if_neg (show ¬ (false = true) by decide)] at H; exact H
                clear H
                have H := H1
                clear H1
                have H' := Aside0.mk H
                clear H
                have hcz13_0 : w8.cell? ⟨gb119, 0, none⟩ = some (.int .i64 0) := (blk_cell BK119.out 0).trans rfl
                have hcz13_1 : w8.cell? ⟨gb119, 1, none⟩ = some (.slice none 0 0) := (blk_cell BK119.out 1).trans rfl
                have hfz13_0 := blk_frozen BK119.out 0
                have hfz13_1 := blk_frozen BK119.out 1
                go_wp2_with (first | ((with_reducible refine gate_callee (f := 21) rfl ?_); refine goesL_ (some 29) rfl rfl Try.func21 (by kernel_rfl) rfl #[.int .i64 ((rd_T51 l0 x5_1).f0)] rfl (by (try simp only [List.map_toArray, List.map_cons, List.map_nil]); first | done | rfl | (simp only [List.length_drop, List.length_take]; rfl)) ?_; (with_reducible refine (haymowref02_fits.calls ((rd_T51 l0 x5_1).f0) false _ A10.out).mono ?_); rintro e w' ⟨rfl, ⟨nd, rfl⟩⟩; refine ⟨_, rfl, ?_⟩))
                go_meet
                case rel => exact ⟨_, (true), (by first | rfl | (simp; done) | (simp [*]; done)), H', ⟨by have := HK1.out; first | omega | exact Nat.le_refl _⟩, ⟨by (with_reducible repeat (first | apply Kd.R_alloc | apply Kd.R_drewN | apply Kd.R_drew)); exact Kd.R_mono (Kd.R_far (p := ⟨gb119, 1, none⟩) (Kd.R_far (p := ⟨gb119, 0, none⟩) (Kd.R_types HO_4.out BK119.out (by decide)) (fun _ hk => hk.2) (.int .i64 ((rd_T51 l0 x5_1).f0))) (fun _ hk => hk.2) (.slice A118_1 ((rd_T51 l0 x5_1).f1).length c118_1)) (fun _ hk => trivial)⟩, ⟨by (with_reducible repeat (first | refine blk_drewN ?_ _ | refine blk_drew ?_ | refine blk_alloc ?_ _)); refine blk_put (cs := #[.int .i64 ((rd_T51 l0 x5_1).f0), .slice none 0 0]) ?_ 1 _ rfl; (with_reducible repeat (first | refine blk_drewN ?_ _ | refine blk_drew ?_ | refine blk_alloc ?_ _)); refine blk_put (cs := #[.int .i64 0, .slice none 0 0]) ?_ 0 _ rfl; (with_reducible repeat (first | refine blk_drewN ?_ _ | refine blk_drew ?_ | refine blk_alloc ?_ _)); exact BK119.out⟩, ⟨by repeat (first | (with_reducible first | exact HB.out | apply below_alloc | apply pw_below_drewN | apply below_drew1 | refine below_set ?_ GE119.out) | exact HB.out)⟩⟩
            case rest =>
              clear HC7
              try clear c1
              try clear p1
              try clear q1
              try clear hx1
              try clear c2
              try clear c2b0
              try clear c2b1
              try clear p2
              try clear c5
              try clear c5b0
              try clear c6
              try clear c6b0
              try clear c11
              try clear p11
              try clear q11
              try clear hx11
              try clear c12
              try clear hcz12_0
              try clear hcz12_1
              try clear hcz13_0
              try clear hcz13_1
              try clear hcz9_0
              try clear hcz9_1
              try clear hfz12_0
              try clear hfz12_1
              try clear hfz13_0
              try clear hfz13_1
              try clear hfz9_0
              try clear hfz9_1
              try clear hx118_0
              try clear hx118_1
              try clear p118
              try clear p2
              try clear q118
              obtain ⟨kq, x36_6, rfl, HA, HJ6, HO_4, BK119, HB⟩ := hcut
              cases kq with
              | zero => exact absurd HA.out (by simp [haymowref02_Write.j1])
              | succ kj6 =>
                have H := HA.out
                clear HA
                simp only [haymowref02_Write.j1] at H
                by_cases c14 : x36_6 = true
                · subst c14
                  have H1 : (some (([] : List Int), false)) = some (r1, r2) := by rw [if_pos rfl] at H; exact H
                  clear H
                  have H := H1
                  clear H1
                  simp only [Option.some.injEq, Prod.mk.injEq] at H
                  obtain ⟨rfl, rfl⟩ := H
                  go_wp2
                  go_ret2
                  exact ⟨_, by first | rfl | (simp [errW_none, errW_some] <;> rfl) | (simp [*, errW_none, errW_some] <;> rfl), by first | exact Kd.R_nil _ _ _ _ _ | exact Kd.N_nil _ _ _ _ _ | exact Kd.V_nil _ _ _ _ _ | exact Kd.Q_nil _ _ _ _ _ | exact Kd.S_nil _ _ _ _ _, by repeat (first | (with_reducible first | exact HB.out | apply below_alloc | apply pw_below_drewN | apply below_drew1 | refine below_set ?_ GE119.out) | exact HB.out)⟩
                · replace c14 := Bool.eq_false_iff.mpr c14
                  subst c14
                  have H1 : ((some (([(((rd_T51 l0 x5_1).f0)) % 256, ((((rd_T51 l0 x5_1).f1).length : Int)) % 256] : List Int) : List Int)).bind fun y121 => (if x4_1.length + y121.length < 140737488355328 then (haymowref02_Write.l1 kj6 l0 (x4_1 ++ y121) x5_1 0 ((rd_T51 l0 x5_1).f0) ((rd_T51 l0 x5_1).f1)) else (none))) = some (r1, r2) := by rw [if_neg (show ¬ (false = true) by decide)] at H; exact H
                  clear H
                  have H := H1
                  clear H1
                  obtain ⟨y121, hy121⟩ : ∃ y_ : List Int, y_ = (([(((rd_T51 l0 x5_1).f0)) % 256, ((((rd_T51 l0 x5_1).f1).length : Int)) % 256] : List Int)) := ⟨_, rfl⟩
                  replace H : (if x4_1.length + y121.length < 140737488355328 then (haymowref02_Write.l1 kj6 l0 (x4_1 ++ y121) x5_1 0 ((rd_T51 l0 x5_1).f0) ((rd_T51 l0 x5_1).f1)) else (none)) = some (r1, r2) := by first | (rw [hy121]; with_reducible exact H) | (have H2_ := (Option.bind_some _ _).symm.trans H; rw [hy121]; with_reducible exact H2_) | (have H2_ := (Option.bind_some _ _).symm.trans H; with_reducible exact H2_) | with_reducible exact H | (rw [hy121]; exact H) | exact H
                  have Ny121 := Aside0.mk hy121
                  clear hy121
                  by_cases c15 : x4_1.length + y121.length < 140737488355328
                  · rw [if_pos c15] at H
                    have LMc15 := Aside0.mk c15
                    clear c15
                    obtain ⟨y124, hy124⟩ : ∃ y_ : List Int, y_ = (x4_1 ++ y121) := ⟨_, rfl⟩
                    replace H : (haymowref02_Write.l1 kj6 l0 y124 x5_1 0 ((rd_T51 l0 x5_1).f0) ((rd_T51 l0 x5_1).f1)) = some (r1, r2) := by first | (rw [hy124]; with_reducible exact H) | (have H2_ := (Option.bind_some _ _).symm.trans H; rw [hy124]; with_reducible exact H2_) | (have H2_ := (Option.bind_some _ _).symm.trans H; with_reducible exact H2_) | with_reducible exact H | (rw [hy124]; exact H) | exact H
                    have Ny124 := Aside0.mk hy124
                    clear hy124
                    have H' := Aside0.mk H
                    clear H
                    have hcz16_0 : wc.cell? ⟨gb119, 0, none⟩ = some (.int .i64 ((rd_T51 l0 x5_1).f0)) := (blk_cell BK119.out 0).trans rfl
                    have hcz16_1 : wc.cell? ⟨gb119, 1, none⟩ = some (.slice A118_1 ((rd_T51 l0 x5_1).f1).length c118_1) := (blk_cell BK119.out 1).trans rfl
                    have hfz16_0 := blk_frozen BK119.out 0
                    have hfz16_1 := blk_frozen BK119.out 1
                    go_wp2_with (first | ((with_reducible refine gate_dst (N := 45) rfl ?_); (try (refine gate_guard (by rfl) ?_; dsimp only)); refine Kd.R_lit (Kd.int .u8) _ 5 ?hg (N := 45) ?hd (xs := ([(((rd_T51 l0 x5_1).f0)) % 256, ((((rd_T51 l0 x5_1).f1).length : Int)) % 256] : List Int)) (inner := [.int .u8 ((((rd_T51 l0 x5_1).f0)) % 256), .int .u8 (((((rd_T51 l0 x5_1).f1).length : Int)) % 256)]) (ok := fun _ => True) (okp := fun _ => True) ?hr ?hp (fun _ hk => hk) trivial (Below.refl _ _) (Nat.le_refl _) (by simp) ?_; (case hd => rfl); (case hg => rfl); (case hr => first | (go_simp; done) | (go_simp; rfl)); (case hp => exact (Reps.one (show Kd.M (Kd.int .u8) _ _ _ ((((rd_T51 l0 x5_1).f0)) % 256) [.int .u8 ((((rd_T51 l0 x5_1).f0)) % 256)] from rfl) (Reps.one (show Kd.M (Kd.int .u8) _ _ _ (((((rd_T51 l0 x5_1).f1).length : Int)) % 256) [.int .u8 (((((rd_T51 l0 x5_1).f1).length : Int)) % 256)] from rfl) (Reps.none _ _)))); intro v122 w17 ho18 hb hg_ hnew_; clear hg_ hnew_; (first | rw [← Ny121.out] at ho18 | (simp only [Int.reduceToNat] at ho18; rw [← Ny121.out] at ho18)); have n0_ := Aside0.mk (Kd.R_elder' (by (with_reducible repeat (first | apply Kd.R_alloc | apply Kd.R_drewN | apply Kd.R_drew)); exact HO_4.out) (Kd.R_base ho18) hb); have n1_ := Aside0.mk (Kd.R_lower (Kd.R_new' ho18 (Kd.R_lt (by (with_reducible repeat (first | apply Kd.R_alloc | apply Kd.R_drewN | apply Kd.R_drew)); exact HO_4.out))) (below_size (by repeat (first | (with_reducible first | exact HB.out | apply below_alloc | apply pw_below_drewN | apply below_drew1 | refine below_set ?_ GE119.out) | exact HB.out)))); have n2_ := Aside0.mk (blk_below (g := gb119) (o := .cells #[.int .i64 ((rd_T51 l0 x5_1).f0), .slice A118_1 ((rd_T51 l0 x5_1).f1).length c118_1] 51 (0, 0)) (by (with_reducible repeat (first | refine blk_drewN ?_ _ | refine blk_drew ?_ | refine blk_alloc ?_ _)); exact BK119.out) hb); have n3_ := Aside0.mk (below_step (by repeat (first | (with_reducible first | exact HB.out | apply below_alloc | apply pw_below_drewN | apply below_drew1 | refine below_set ?_ GE119.out) | exact HB.out)) hb); clear HO_4; clear BK119; clear HB; have HO_4 := n0_; have HO123 := n1_; have BK119 := n2_; have HB := n3_; clear n0_ n1_ n2_ n3_; clear hb ho18; obtain ⟨Ao20, co20, eo20⟩ := Kd.R_slice HO123.out; subst eo20) | ((with_reducible refine gate_builtin (b := .append) (xs := #[.tmp 37, .tmp 45]) rfl ?_); (try (refine gate_guard (by rfl) ?_; dsimp only)); at_builtin; refine Kd.R_append_rows (Kd.int .u8) (w0 := w) w.heap.size rfl (.tmp 37) (.tmp 45) 24 5 (.int .u8 0) 1 rfl Try.underlying24 info5 rfl (by decide) (by omega) u4 x4_1 y121 _ _ _ (fun k_ => some k_ ≠ (.slice Ao20 y121.length co20 : Value).ownBlock) (fun _ => False) rfl rfl ?aO ?aR (fun _ _ h => h) (fun _ h => h.elim) ?aF ?aB ?aS ?aL ?_; (case aR => repeat (first | exact (Kd.R_reads' HO123.out).2.2 | (with_reducible refine Kd.C_alloc ?_ _) | (with_reducible refine Kd.C_drewN ?_ _) | (with_reducible refine Kd.C_drew ?_))); (case aB => exact (by repeat (first | (with_reducible first | exact HB.out | apply below_alloc | apply pw_below_drewN | apply below_drew1 | refine below_set ?_ GE119.out) | exact HB.out))); (case aF => exact (fun k_ hk => Kd.fresh' (Kd.R_lt (by (with_reducible repeat (first | apply Kd.R_alloc | apply Kd.R_drewN | apply Kd.R_drew)); exact HO123.out)) k_ hk)); (case aO => exact (by (with_reducible repeat (first | apply Kd.R_alloc | apply Kd.R_drewN | apply Kd.R_drew)); exact Kd.R_mono HO_4.out (fun _ hk => hk.2))); (case aS => exact (below_size (by repeat (first | (with_reducible first | exact HB.out | apply below_alloc | apply pw_below_drewN | apply below_drew1 | refine below_set ?_ GE119.out) | exact HB.out)))); (case aL => have := LMc15.out; omega); intro v125 w19 ho hb hg hat; rw [← Ny124.out] at ho; have n0_ := Aside0.mk (blk_grown (g := gb119) (o := .cells #[.int .i64 ((rd_T51 l0 x5_1).f0), .slice A118_1 ((rd_T51 l0 x5_1).f1).length c118_1] 51 (0, 0)) (by (with_reducible repeat (first | refine blk_drewN ?_ _ | refine blk_drew ?_ | refine blk_alloc ?_ _)); exact BK119.out) hg (Kd.R_ne HO_4.out BK119.out (by decide))); have n1_ := Aside0.mk (Kd.R_after (ok := (fun _ => True)) (by (with_reducible repeat (first | apply Kd.R_alloc | apply Kd.R_drewN | apply Kd.R_drew)); exact HO123.out) hg hat); have n2_ := Aside0.mk (hb); have n3_ := Aside0.mk (ho); clear BK119; clear HO123; clear HB; clear HO_4; have BK119 := n0_; have HO123 := n1_; have HB := n2_; have HO126 := n3_; clear n0_ n1_ n2_ n3_; clear ho hb hg hat))
                    go_loopg [4, 7] kj6 (fun kq v4 v7 w' => ∃ (x4_3 : List Int) (x7_3 : Int), v7 = .int .i64 x7_3 ∧ Aside0 (haymowref02_Write.l1 kq l0 x4_3 x5_1 x7_3 ((rd_T51 l0 x5_1).f0) ((rd_T51 l0 x5_1).f1) = some (r1, r2)) ∧ Aside0 (kq ≤ kj6) ∧ Aside0 (Kd.R (Kd.int .u8) 5 w' w.heap.size (fun _ => True) v4 x4_3) ∧ Aside0 (w'.heap[gb119]? = some (.cells #[.int .i64 ((rd_T51 l0 x5_1).f0), (.slice A118_1 ((rd_T51 l0 x5_1).f1).length c118_1)] 51 (0, 0))) ∧ Aside0 (Below w.heap.size w w'))
                    case atStart => exact ⟨(y124), (0), (by first | rfl | (simp; done) | (simp [*]; done)), H', ⟨Nat.le_refl _⟩, ⟨by (with_reducible repeat (first | apply Kd.R_alloc | apply Kd.R_drewN | apply Kd.R_drew)); exact Kd.R_mono HO126.out (fun _ hk => trivial)⟩, ⟨by (with_reducible repeat (first | refine blk_drewN ?_ _ | refine blk_drew ?_ | refine blk_alloc ?_ _)); exact BK119.out⟩, ⟨by repeat (first | (with_reducible first | exact HB.out | apply below_alloc | apply pw_below_drewN | apply below_drew1 | refine below_set ?_ GE119.out) | exact HB.out)⟩⟩
                    case round =>
                      clear H'
                      try clear c1
                      try clear p1
                      try clear q1
                      try clear hx1
                      try clear c2
                      try clear c2b0
                      try clear c2b1
                      try clear p2
                      try clear c5
                      try clear c5b0
                      try clear c6
                      try clear c6b0
                      try clear c11
                      try clear p11
                      try clear q11
                      try clear hx11
                      try clear c12
                      try clear c14
                      try clear c15
                      try clear hcz12_0
                      try clear hcz12_1
                      try clear hcz13_0
                      try clear hcz13_1
                      try clear hcz16_0
                      try clear hcz16_1
                      try clear hcz9_0
                      try clear hcz9_1
                      try clear hfz12_0
                      try clear hfz12_1
                      try clear hfz13_0
                      try clear hfz13_1
                      try clear hfz16_0
                      try clear hfz16_1
                      try clear hfz9_0
                      try clear hfz9_1
                      try clear hx118_0
                      try clear hx118_1
                      try clear p1
                      try clear p11
                      try clear p118
                      try clear p2
                      try clear q1
                      try clear q11
                      try clear q118
                      obtain ⟨x4_3, x7_3, rfl, HA, HK3, HO_4, BK119, HB⟩ := hrel
                      cases gk with
                      | zero => exact absurd HA.out (by simp [haymowref02_Write.l1])
                      | succ k3 =>
                        have H := HA.out
                        clear HA
                        simp only [haymowref02_Write.l1] at H
                        by_cases c21 : x7_3 < (((rd_T51 l0 x5_1).f1).length : Int)
                        · rw [if_pos c21] at H
                          have c21b0 : decide (x7_3 < (((rd_T51 l0 x5_1).f1).length : Int)) = true := decide_eq_true c21
                          clear c21
                          by_cases c22 : 0 ≤ x7_3
                          · rw [if_pos c22] at H
                            have c22b0 : decide (0 ≤ x7_3) = true := decide_eq_true c22
                            clear c22
                            have HC23 := Aside0.mk H
                            clear H
                            have hcz24_0 : wr.cell? ⟨gb119, 0, none⟩ = some (.int .i64 ((rd_T51 l0 x5_1).f0)) := (blk_cell BK119.out 0).trans rfl
                            have hcz24_1 : wr.cell? ⟨gb119, 1, none⟩ = some (.slice A118_1 ((rd_T51 l0 x5_1).f1).length c118_1) := (blk_cell BK119.out 1).trans rfl
                            have hfz24_0 := blk_frozen BK119.out 0
                            have hfz24_1 := blk_frozen BK119.out 1
                            have p127 : 0 ≤ (x7_3 : Int) := of_decide_eq_true (by first | (with_reducible assumption) | assumption)
                            have q127 : x7_3 < (((rd_T51 l0 x5_1).f1).length : Int) := of_decide_eq_true (by first | (with_reducible assumption) | assumption)
                            obtain ⟨ad127, e127, hx127_0, hx127_1, hx127_2, hx127_3, hx127_4⟩ := at_T56 HR118_1.out x7_3 p127 q127
                            cases e127
                            replace hx127_0 := (HB.out.cell (World.block_lt_of_cell? w _ hx127_0)).trans hx127_0
                            replace hx127_1 := (HB.out.cell (World.block_lt_of_cell? w _ hx127_1)).trans hx127_1
                            replace hx127_2 := (HB.out.cell (World.block_lt_of_cell? w _ hx127_2)).trans hx127_2
                            replace hx127_3 := (HB.out.cell (World.block_lt_of_cell? w _ hx127_3)).trans hx127_3
                            replace hx127_4 := (HB.out.cell (World.block_lt_of_cell? w _ hx127_4)).trans hx127_4
                            replace p127 := eq_true p127
                            replace q127 := eq_true q127
                            go_upto_region 15 with (first | ((with_reducible refine gate_dst (N := 8) rfl ?_); (try (refine gate_guard (by rfl) ?_; dsimp only)); refine box_event ?hg (N := 8) ?hd (cs := #[.int .i64 0, .int .i64 0, .int .i64 0, .int .i64 0, .int .i64 0]) (t := 56) ?hr ?_; (case hd => rfl); (case hg => rfl); (case hr => first | (go_simp; done) | (go_simp; rfl)); intro gb128 hg w25 hbox hb; have n0_ := Aside0.mk (Kd.R_below (by (with_reducible repeat (first | apply Kd.R_alloc | apply Kd.R_drewN | apply Kd.R_drew)); exact HO_4.out) hb); have n1_ := Aside0.mk (blk_below (g := gb119) (o := .cells #[.int .i64 ((rd_T51 l0 x5_1).f0), .slice (some ad127) ((rd_T51 l0 x5_1).f1).length c118_1] 51 (0, 0)) (by (with_reducible repeat (first | refine blk_drewN ?_ _ | refine blk_drew ?_ | refine blk_alloc ?_ _)); exact BK119.out) hb); have n2_ := Aside0.mk (below_step (by repeat (first | (with_reducible first | exact HB.out | apply below_alloc | apply pw_below_drewN | apply below_drew1 | refine below_set ?_ GE119.out) | exact HB.out)) hb); have n3_ := Aside0.mk (hbox); have n4_ := Aside0.mk ((by rw [hg]; exact (below_size (by repeat (first | (with_reducible first | exact HB.out | apply below_alloc | apply pw_below_drewN | apply below_drew1 | refine below_set ?_ GE119.out) | exact HB.out))) : w.heap.size ≤ gb128)); have n5_ := Aside0.mk ((by rw [hg]; exact (below_size (by repeat (first | (with_reducible first | exact HB.out | apply below_alloc | apply pw_below_drewN | apply below_drew1 | refine below_set ?_ GE119.out) | exact HB.out))) : w.heap.size ≤ gb128)); have n6_ := Aside0.mk ((by rw [hg]; exact Nat.ne_of_lt (blk_lt (g := gb119) (o := .cells #[.int .i64 ((rd_T51 l0 x5_1).f0), .slice (some ad127) ((rd_T51 l0 x5_1).f1).length c118_1] 51 (0, 0)) (by (with_reducible repeat (first | refine blk_drewN ?_ _ | refine blk_drew ?_ | refine blk_alloc ?_ _)); exact BK119.out)) : gb119 ≠ gb128)); have n7_ := Aside0.mk ((by rw [hg]; exact Nat.ne_of_gt (blk_lt (g := gb119) (o := .cells #[.int .i64 ((rd_T51 l0 x5_1).f0), .slice (some ad127) ((rd_T51 l0 x5_1).f1).length c118_1] 51 (0, 0)) (by (with_reducible repeat (first | refine blk_drewN ?_ _ | refine blk_drew ?_ | refine blk_alloc ?_ _)); exact BK119.out)) : gb128 ≠ gb119)); clear HO_4; clear BK119; clear HB; have HO_4 := n0_; have BK119 := n1_; have HB := n2_; have BK128 := n3_; have GW128 := n4_; have GE128 := n5_; have NB119_128 := n6_; have NB128_119 := n7_; clear n0_ n1_ n2_ n3_ n4_ n5_ n6_ n7_; clear hb hbox hg; have hnb26 := NB128_119.out; have hnc26 := NB119_128.out; have hcz27_0 : w25.cell? ⟨gb128, 0, none⟩ = some (.int .i64 0) := (blk_cell BK128.out 0).trans rfl; have hcz27_1 : w25.cell? ⟨gb128, 1, none⟩ = some (.int .i64 0) := (blk_cell BK128.out 1).trans rfl; have hcz27_2 : w25.cell? ⟨gb128, 2, none⟩ = some (.int .i64 0) := (blk_cell BK128.out 2).trans rfl; have hcz27_3 : w25.cell? ⟨gb128, 3, none⟩ = some (.int .i64 0) := (blk_cell BK128.out 3).trans rfl; have hcz27_4 : w25.cell? ⟨gb128, 4, none⟩ = some (.int .i64 0) := (blk_cell BK128.out 4).trans rfl; have hfz27_0 := blk_frozen BK128.out 0; have hfz27_1 := blk_frozen BK128.out 1; have hfz27_2 := blk_frozen BK128.out 2; have hfz27_3 := blk_frozen BK128.out 3; have hfz27_4 := blk_frozen BK128.out 4))
                            (try simp only [Act.put, List.setIfInBounds_toArray, List.set_cons_zero, List.set_cons_succ])
                            go_cut [90] (fun v90 wc => ∃ (kq : Nat) (x90_22 : Bool), v90 = .bool x90_22 ∧ Aside0 (haymowref02_Write.j3 kq l0 x4_3 x5_1 x7_3 x90_22 ((rd_T51 l0 x5_1).f0) ((rd_T51 l0 x5_1).f1) ((rd_T56 ((rd_T51 l0 x5_1).f1) x7_3).f0) ((rd_T56 ((rd_T51 l0 x5_1).f1) x7_3).f1) ((rd_T56 ((rd_T51 l0 x5_1).f1) x7_3).f2) ((rd_T56 ((rd_T51 l0 x5_1).f1) x7_3).f3) ((rd_T56 ((rd_T51 l0 x5_1).f1) x7_3).f4) = some (r1, r2)) ∧ Aside0 (kq ≤ k3) ∧ Aside0 (Kd.R (Kd.int .u8) 5 wc w.heap.size (fun _ => True) u4 x4_3) ∧ Aside0 (wc.heap[gb119]? = some (.cells #[.int .i64 ((rd_T51 l0 x5_1).f0), (.slice (some ad127) ((rd_T51 l0 x5_1).f1).length c118_1)] 51 (0, 0))) ∧ Aside0 (wc.heap[gb128]? = some (.cells #[.int .i64 ((rd_T56 ((rd_T51 l0 x5_1).f1) x7_3).f0), .int .i64 ((rd_T56 ((rd_T51 l0 x5_1).f1) x7_3).f1), .int .i64 ((rd_T56 ((rd_T51 l0 x5_1).f1) x7_3).f2), .int .i64 ((rd_T56 ((rd_T51 l0 x5_1).f1) x7_3).f3), .int .i64 ((rd_T56 ((rd_T51 l0 x5_1).f1) x7_3).f4)] 56 (0, 0))) ∧ Aside0 (Below w.heap.size w wc))
                            case first =>
                              have H := HC23.out
                              clear HC23
                              replace H := Option.bind_eq_some_iff.mp H
                              obtain ⟨t129, A280, H⟩ := H
                              replace H : (if t129 = true then ((haymowref02_fits.f ((rd_T56 ((rd_T51 l0 x5_1).f1) x7_3).f1)).bind fun t130 => (if t130 = true then ((haymowref02_fits.f ((rd_T56 ((rd_T51 l0 x5_1).f1) x7_3).f2)).bind fun t131 => (if t131 = true then ((haymowref02_fits.f ((rd_T56 ((rd_T51 l0 x5_1).f1) x7_3).f3)).bind fun t132 => (if t132 = true then (if ((rd_T56 ((rd_T51 l0 x5_1).f1) x7_3).f4) < (-2147483648) then (haymowref02_Write.j3 k3 l0 x4_3 x5_1 x7_3 true ((rd_T51 l0 x5_1).f0) ((rd_T51 l0 x5_1).f1) ((rd_T56 ((rd_T51 l0 x5_1).f1) x7_3).f0) ((rd_T56 ((rd_T51 l0 x5_1).f1) x7_3).f1) ((rd_T56 ((rd_T51 l0 x5_1).f1) x7_3).f2) ((rd_T56 ((rd_T51 l0 x5_1).f1) x7_3).f3) ((rd_T56 ((rd_T51 l0 x5_1).f1) x7_3).f4)) else (haymowref02_Write.j3 k3 l0 x4_3 x5_1 x7_3 (decide (((rd_T56 ((rd_T51 l0 x5_1).f1) x7_3).f4) > 2147483647)) ((rd_T51 l0 x5_1).f0) ((rd_T51 l0 x5_1).f1) ((rd_T56 ((rd_T51 l0 x5_1).f1) x7_3).f0) ((rd_T56 ((rd_T51 l0 x5_1).f1) x7_3).f1) ((rd_T56 ((rd_T51 l0 x5_1).f1) x7_3).f2) ((rd_T56 ((rd_T51 l0 x5_1).f1) x7_3).f3) ((rd_T56 ((rd_T51 l0 x5_1).f1) x7_3).f4))) else (haymowref02_Write.j3 k3 l0 x4_3 x5_1 x7_3 true ((rd_T51 l0 x5_1).f0) ((rd_T51 l0 x5_1).f1) ((rd_T56 ((rd_T51 l0 x5_1).f1) x7_3).f0) ((rd_T56 ((rd_T51 l0 x5_1).f1) x7_3).f1) ((rd_T56 ((rd_T51 l0 x5_1).f1) x7_3).f2) ((rd_T56 ((rd_T51 l0 x5_1).f1) x7_3).f3) ((rd_T56 ((rd_T51 l0 x5_1).f1) x7_3).f4)))) else (haymowref02_Write.j3 k3 l0 x4_3 x5_1 x7_3 true ((rd_T51 l0 x5_1).f0) ((rd_T51 l0 x5_1).f1) ((rd_T56 ((rd_T51 l0 x5_1).f1) x7_3).f0) ((rd_T56 ((rd_T51 l0 x5_1).f1) x7_3).f1) ((rd_T56 ((rd_T51 l0 x5_1).f1) x7_3).f2) ((rd_T56 ((rd_T51 l0 x5_1).f1) x7_3).f3) ((rd_T56 ((rd_T51 l0 x5_1).f1) x7_3).f4)))) else (haymowref02_Write.j3 k3 l0 x4_3 x5_1 x7_3 true ((rd_T51 l0 x5_1).f0) ((rd_T51 l0 x5_1).f1) ((rd_T56 ((rd_T51 l0 x5_1).f1) x7_3).f0) ((rd_T56 ((rd_T51 l0 x5_1).f1) x7_3).f1) ((rd_T56 ((rd_T51 l0 x5_1).f1) x7_3).f2) ((rd_T56 ((rd_T51 l0 x5_1).f1) x7_3).f3) ((rd_T56 ((rd_T51 l0 x5_1).f1) x7_3).f4)))) else (haymowref02_Write.j3 k3 l0 x4_3 x5_1 x7_3 true ((rd_T51 l0 x5_1).f0) ((rd_T51 l0 x5_1).f1) ((rd_T56 ((rd_T51 l0 x5_1).f1) x7_3).f0) ((rd_T56 ((rd_T51 l0 x5_1).f1) x7_3).f1) ((rd_T56 ((rd_T51 l0 x5_1).f1) x7_3).f2) ((rd_T56 ((rd_T51 l0 x5_1).f1) x7_3).f3) ((rd_T56 ((rd_T51 l0 x5_1).f1) x7_3).f4))) = some (r1, r2) := H
                              have A28 := Aside0.mk A280
                              clear A280
                              by_cases c29 : t129 = true
                              · subst c29
                                have H1 : ((haymowref02_fits.f ((rd_T56 ((rd_T51 l0 x5_1).f1) x7_3).f1)).bind fun t130 => (if t130 = true then ((haymowref02_fits.f ((rd_T56 ((rd_T51 l0 x5_1).f1) x7_3).f2)).bind fun t131 => (if t131 = true then ((haymowref02_fits.f ((rd_T56 ((rd_T51 l0 x5_1).f1) x7_3).f3)).bind fun t132 => (if t132 = true then (if ((rd_T56 ((rd_T51 l0 x5_1).f1) x7_3).f4) < (-2147483648) then (haymowref02_Write.j3 k3 l0 x4_3 x5_1 x7_3 true ((rd_T51 l0 x5_1).f0) ((rd_T51 l0 x5_1).f1) ((rd_T56 ((rd_T51 l0 x5_1).f1) x7_3).f0) ((rd_T56 ((rd_T51 l0 x5_1).f1) x7_3).f1) ((rd_T56 ((rd_T51 l0 x5_1).f1) x7_3).f2) ((rd_T56 ((rd_T51 l0 x5_1).f1) x7_3).f3) ((rd_T56 ((rd_T51 l0 x5_1).f1) x7_3).f4)) else (haymowref02_Write.j3 k3 l0 x4_3 x5_1 x7_3 (decide (((rd_T56 ((rd_T51 l0 x5_1).f1) x7_3).f4) > 2147483647)) ((rd_T51 l0 x5_1).f0) ((rd_T51 l0 x5_1).f1) ((rd_T56 ((rd_T51 l0 x5_1).f1) x7_3).f0) ((rd_T56 ((rd_T51 l0 x5_1).f1) x7_3).f1) ((rd_T56 ((rd_T51 l0 x5_1).f1) x7_3).f2) ((rd_T56 ((rd_T51 l0 x5_1).f1) x7_3).f3) ((rd_T56 ((rd_T51 l0 x5_1).f1) x7_3).f4))) else (haymowref02_Write.j3 k3 l0 x4_3 x5_1 x7_3 true ((rd_T51 l0 x5_1).f0) ((rd_T51 l0 x5_1).f1) ((rd_T56 ((rd_T51 l0 x5_1).f1) x7_3).f0) ((rd_T56 ((rd_T51 l0 x5_1).f1) x7_3).f1) ((rd_T56 ((rd_T51 l0 x5_1).f1) x7_3).f2) ((rd_T56 ((rd_T51 l0 x5_1).f1) x7_3).f3) ((rd_T56 ((rd_T51 l0 x5_1).f1) x7_3).f4)))) else (haymowref02_Write.j3 k3 l0 x4_3 x5_1 x7_3 true ((rd_T51 l0 x5_1).f0) ((rd_T51 l0 x5_1).f1) ((rd_T56 ((rd_T51 l0 x5_1).f1) x7_3).f0) ((rd_T56 ((rd_T51 l0 x5_1).f1) x7_3).f1) ((rd_T56 ((rd_T51 l0 x5_1).f1) x7_3).f2) ((rd_T56 ((rd_T51 l0 x5_1).f1) x7_3).f3) ((rd_T56 ((rd_T51 l0 x5_1).f1) x7_3).f4)))) else (haymowref02_Write.j3 k3 l0 x4_3 x5_1 x7_3 true ((rd_T51 l0 x5_1).f0) ((rd_T51 l0 x5_1).f1) ((rd_T56 ((rd_T51 l0 x5_1).f1) x7_3).f0) ((rd_T56 ((rd_T51 l0 x5_1).f1) x7_3).f1) ((rd_T56 ((rd_T51 l0 x5_1).f1) x7_3).f2) ((rd_T56 ((rd_T51 l0 x5_1).f1) x7_3).f3) ((rd_T56 ((rd_T51 l0 x5_1).f1) x7_3).f4)))) = some (r1, r2) := by rw [if_pos rfl] at H; exact H
                                clear H
                                have H := H1
                                clear H1
                                replace H := Option.bind_eq_some_iff.mp H
                                obtain ⟨t130, A300, H⟩ := H
                                replace H : (if t130 = true then ((haymowref02_fits.f ((rd_T56 ((rd_T51 l0 x5_1).f1) x7_3).f2)).bind fun t131 => (if t131 = true then ((haymowref02_fits.f ((rd_T56 ((rd_T51 l0 x5_1).f1) x7_3).f3)).bind fun t132 => (if t132 = true then (if ((rd_T56 ((rd_T51 l0 x5_1).f1) x7_3).f4) < (-2147483648) then (haymowref02_Write.j3 k3 l0 x4_3 x5_1 x7_3 true ((rd_T51 l0 x5_1).f0) ((rd_T51 l0 x5_1).f1) ((rd_T56 ((rd_T51 l0 x5_1).f1) x7_3).f0) ((rd_T56 ((rd_T51 l0 x5_1).f1) x7_3).f1) ((rd_T56 ((rd_T51 l0 x5_1).f1) x7_3).f2) ((rd_T56 ((rd_T51 l0 x5_1).f1) x7_3).f3) ((rd_T56 ((rd_T51 l0 x5_1).f1) x7_3).f4)) else (haymowref02_Write.j3 k3 l0 x4_3 x5_1 x7_3 (decide (((rd_T56 ((rd_T51 l0 x5_1).f1) x7_3).f4) > 2147483647)) ((rd_T51 l0 x5_1).f0) ((rd_T51 l0 x5_1).f1) ((rd_T56 ((rd_T51 l0 x5_1).f1) x7_3).f0) ((rd_T56 ((rd_T51 l0 x5_1).f1) x7_3).f1) ((rd_T56 ((rd_T51 l0 x5_1).f1) x7_3).f2) ((rd_T56 ((rd_T51 l0 x5_1).f1) x7_3).f3) ((rd_T56 ((rd_T51 l0 x5_1).f1) x7_3).f4))) else (haymowref02_Write.j3 k3 l0 x4_3 x5_1 x7_3 true ((rd_T51 l0 x5_1).f0) ((rd_T51 l0 x5_1).f1) ((rd_T56 ((rd_T51 l0 x5_1).f1) x7_3).f0) ((rd_T56 ((rd_T51 l0 x5_1).f1) x7_3).f1) ((rd_T56 ((rd_T51 l0 x5_1).f1) x7_3).f2) ((rd_T56 ((rd_T51 l0 x5_1).f1) x7_3).f3) ((rd_T56 ((rd_T51 l0 x5_1).f1) x7_3).f4)))) else (haymowref02_Write.j3 k3 l0 x4_3 x5_1 x7_3 true ((rd_T51 l0 x5_1).f0) ((rd_T51 l0 x5_1).f1) ((rd_T56 ((rd_T51 l0 x5_1).f1) x7_3).f0) ((rd_T56 ((rd_T51 l0 x5_1).f1) x7_3).f1) ((rd_T56 ((rd_T51 l0 x5_1).f1) x7_3).f2) ((rd_T56 ((rd_T51 l0 x5_1).f1) x7_3).f3) ((rd_T56 ((rd_T51 l0 x5_1).f1) x7_3).f4)))) else (haymowref02_Write.j3 k3 l0 x4_3 x5_1 x7_3 true ((rd_T51 l0 x5_1).f0) ((rd_T51 l0 x5_1).f1) ((rd_T56 ((rd_T51 l0 x5_1).f1) x7_3).f0) ((rd_T56 ((rd_T51 l0 x5_1).f1) x7_3).f1) ((rd_T56 ((rd_T51 l0 x5_1).f1) x7_3).f2) ((rd_T56 ((rd_T51 l0 x5_1).f1) x7_3).f3) ((rd_T56 ((rd_T51 l0 x5_1).f1) x7_3).f4))) = some (r1, r2) := H
                                have A30 := Aside0.mk A300
                                clear A300
                                by_cases c31 : t130 = true
                                · subst c31
                                  have H1 : ((haymowref02_fits.f ((rd_T56 ((rd_T51 l0 x5_1).f1) x7_3).f2)).bind fun t131 => (if t131 = true then ((haymowref02_fits.f ((rd_T56 ((rd_T51 l0 x5_1).f1) x7_3).f3)).bind fun t132 => (if t132 = true then (if ((rd_T56 ((rd_T51 l0 x5_1).f1) x7_3).f4) < (-2147483648) then (haymowref02_Write.j3 k3 l0 x4_3 x5_1 x7_3 true ((rd_T51 l0 x5_1).f0) ((rd_T51 l0 x5_1).f1) ((rd_T56 ((rd_T51 l0 x5_1).f1) x7_3).f0) ((rd_T56 ((rd_T51 l0 x5_1).f1) x7_3).f1) ((rd_T56 ((rd_T51 l0 x5_1).f1) x7_3).f2) ((rd_T56 ((rd_T51 l0 x5_1).f1) x7_3).f3) ((rd_T56 ((rd_T51 l0 x5_1).f1) x7_3).f4)) else (haymowref02_Write.j3 k3 l0 x4_3 x5_1 x7_3 (decide (((rd_T56 ((rd_T51 l0 x5_1).f1) x7_3).f4) > 2147483647)) ((rd_T51 l0 x5_1).f0) ((rd_T51 l0 x5_1).f1) ((rd_T56 ((rd_T51 l0 x5_1).f1) x7_3).f0) ((rd_T56 ((rd_T51 l0 x5_1).f1) x7_3).f1) ((rd_T56 ((rd_T51 l0 x5_1).f1) x7_3).f2) ((rd_T56 ((rd_T51 l0 x5_1).f1) x7_3).f3) ((rd_T56 ((rd_T51 l0 x5_1).f1) x7_3).f4))) else (haymowref02_Write.j3 k3 l0 x4_3 x5_1 x7_3 true ((rd_T51 l0 x5_1).f0) ((rd_T51 l0 x5_1).f1) ((rd_T56 ((rd_T51 l0 x5_1).f1) x7_3).f0) ((rd_T56 ((rd_T51 l0 x5_1).f1) x7_3).f1) ((rd_T56 ((rd_T51 l0 x5_1).f1) x7_3).f2) ((rd_T56 ((rd_T51 l0 x5_1).f1) x7_3).f3) ((rd_T56 ((rd_T51 l0 x5_1).f1) x7_3).f4)))) else (haymowref02_Write.j3 k3 l0 x4_3 x5_1 x7_3 true ((rd_T51 l0 x5_1).f0) ((rd_T51 l0 x5_1).f1) ((rd_T56 ((rd_T51 l0 x5_1).f1) x7_3).f0) ((rd_T56 ((rd_T51 l0 x5_1).f1) x7_3).f1) ((rd_T56 ((rd_T51 l0 x5_1).f1) x7_3).f2) ((rd_T56 ((rd_T51 l0 x5_1).f1) x7_3).f3) ((rd_T56 ((rd_T51 l0 x5_1).f1) x7_3).f4)))) = some (r1, r2) := by rw [if_pos rfl] at H; exact H
                                  clear H
                                  have H := H1
                                  clear H1
                                  replace H := Option.bind_eq_some_iff.mp H
                                  obtain ⟨t131, A320, H⟩ := H
                                  replace H : (if t131 = true then ((haymowref02_fits.f ((rd_T56 ((rd_T51 l0 x5_1).f1) x7_3).f3)).bind fun t132 => (if t132 = true then (if ((rd_T56 ((rd_T51 l0 x5_1).f1) x7_3).f4) < (-2147483648) then (haymowref02_Write.j3 k3 l0 x4_3 x5_1 x7_3 true ((rd_T51 l0 x5_1).f0) ((rd_T51 l0 x5_1).f1) ((rd_T56 ((rd_T51 l0 x5_1).f1) x7_3).f0) ((rd_T56 ((rd_T51 l0 x5_1).f1) x7_3).f1) ((rd_T56 ((rd_T51 l0 x5_1).f1) x7_3).f2) ((rd_T56 ((rd_T51 l0 x5_1).f1) x7_3).f3) ((rd_T56 ((rd_T51 l0 x5_1).f1) x7_3).f4)) else (haymowref02_Write.j3 k3 l0 x4_3 x5_1 x7_3 (decide (((rd_T56 ((rd_T51 l0 x5_1).f1) x7_3).f4) > 2147483647)) ((rd_T51 l0 x5_1).f0) ((rd_T51 l0 x5_1).f1) ((rd_T56 ((rd_T51 l0 x5_1).f1) x7_3).f0) ((rd_T56 ((rd_T51 l0 x5_1).f1) x7_3).f1) ((rd_T56 ((rd_T51 l0 x5_1).f1) x7_3).f2) ((rd_T56 ((rd_T51 l0 x5_1).f1) x7_3).f3) ((rd_T56 ((rd_T51 l0 x5_1).f1) x7_3).f4))) else (haymowref02_Write.j3 k3 l0 x4_3 x5_1 x7_3 true ((rd_T51 l0 x5_1).f0) ((rd_T51 l0 x5_1).f1) ((rd_T56 ((rd_T51 l0 x5_1).f1) x7_3).f0) ((rd_T56 ((rd_T51 l0 x5_1).f1) x7_3).f1) ((rd_T56 ((rd_T51 l0 x5_1).f1) x7_3).f2) ((rd_T56 ((rd_T51 l0 x5_1).f1) x7_3).f3) ((rd_T56 ((rd_T51 l0 x5_1).f1) x7_3).f4)))) else (haymowref02_Write.j3 k3 l0 x4_3 x5_1 x7_3 true ((rd_T51 l0 x5_1).f0) ((rd_T51 l0 x5_1).f1) ((rd_T56 ((rd_T51 l0 x5_1).f1) x7_3).f0) ((rd_T56 ((rd_T51 l0 x5_1).f1) x7_3).f1) ((rd_T56 ((rd_T51 l0 x5_1).f1) x7_3).f2) ((rd_T56 ((rd_T51 l0 x5_1).f1) x7_3).f3) ((rd_T56 ((rd_T51 l0 x5_1).f1) x7_3).f4))) = some (r1, r2) := H
                                  have A32 := Aside0.mk A320
                                  clear A320
                                  by_cases c33 : t131 = true
                                  · subst c33
                                    have H1 : ((haymowref02_fits.f ((rd_T56 ((rd_T51 l0 x5_1).f1) x7_3).f3)).bind fun t132 => (if t132 = true then (if ((rd_T56 ((rd_T51 l0 x5_1).f1) x7_3).f4) < (-2147483648) then (haymowref02_Write.j3 k3 l0 x4_3 x5_1 x7_3 true ((rd_T51 l0 x5_1).f0) ((rd_T51 l0 x5_1).f1) ((rd_T56 ((rd_T51 l0 x5_1).f1) x7_3).f0) ((rd_T56 ((rd_T51 l0 x5_1).f1) x7_3).f1) ((rd_T56 ((rd_T51 l0 x5_1).f1) x7_3).f2) ((rd_T56 ((rd_T51 l0 x5_1).f1) x7_3).f3) ((rd_T56 ((rd_T51 l0 x5_1).f1) x7_3).f4)) else (haymowref02_Write.j3 k3 l0 x4_3 x5_1 x7_3 (decide (((rd_T56 ((rd_T51 l0 x5_1).f1) x7_3).f4) > 2147483647)) ((rd_T51 l0 x5_1).f0) ((rd_T51 l0 x5_1).f1) ((rd_T56 ((rd_T51 l0 x5_1).f1) x7_3).f0) ((rd_T56 ((rd_T51 l0 x5_1).f1) x7_3).f1) ((rd_T56 ((rd_T51 l0 x5_1).f1) x7_3).f2) ((rd_T56 ((rd_T51 l0 x5_1).f1) x7_3).f3) ((rd_T56 ((rd_T51 l0 x5_1).f1) x7_3).f4))) else (haymowref02_Write.j3 k3 l0 x4_3 x5_1 x7_3 true ((rd_T51 l0 x5_1).f0) ((rd_T51 l0 x5_1).f1) ((rd_T56 ((rd_T51 l0 x5_1).f1) x7_3).f0) ((rd_T56 ((rd_T51 l0 x5_1).f1) x7_3).f1) ((rd_T56 ((rd_T51 l0 x5_1).f1) x7_3).f2) ((rd_T56 ((rd_T51 l0 x5_1).f1) x7_3).f3) ((rd_T56 ((rd_T51 l0 x5_1).f1) x7_3).f4)))) = some (r1, r2) := by rw [if_pos rfl] at H; exact H
                                    clear H
                                    have H := H1
                                    clear H1
                                    replace H := Option.bind_eq_some_iff.mp H
                                    obtain ⟨t132, A340, H⟩ := H
                                    replace H : (if t132 = true then (if ((rd_T56 ((rd_T51 l0 x5_1).f1) x7_3).f4) < (-2147483648) then (haymowref02_Write.j3 k3 l0 x4_3 x5_1 x7_3 true ((rd_T51 l0 x5_1).f0) ((rd_T51 l0 x5_1).f1) ((rd_T56 ((rd_T51 l0 x5_1).f1) x7_3).f0) ((rd_T56 ((rd_T51 l0 x5_1).f1) x7_3).f1) ((rd_T56 ((rd_T51 l0 x5_1).f1) x7_3).f2) ((rd_T56 ((rd_T51 l0 x5_1).f1) x7_3).f3) ((rd_T56 ((rd_T51 l0 x5_1).f1) x7_3).f4)) else (haymowref02_Write.j3 k3 l0 x4_3 x5_1 x7_3 (decide (((rd_T56 ((rd_T51 l0 x5_1).f1) x7_3).f4) > 2147483647)) ((rd_T51 l0 x5_1).f0) ((rd_T51 l0 x5_1).f1) ((rd_T56 ((rd_T51 l0 x5_1).f1) x7_3).f0) ((rd_T56 ((rd_T51 l0 x5_1).f1) x7_3).f1) ((rd_T56 ((rd_T51 l0 x5_1).f1) x7_3).f2) ((rd_T56 ((rd_T51 l0 x5_1).f1) x7_3).f3) ((rd_T56 ((rd_T51 l0 x5_1).f1) x7_3).f4))) else (haymowref02_Write.j3 k3 l0 x4_3 x5_1 x7_3 true ((rd_T51 l0 x5_1).f0) ((rd_T51 l0 x5_1).f1) ((rd_T56 ((rd_T51 l0 x5_1).f1) x7_3).f0) ((rd_T56 ((rd_T51 l0 x5_1).f1) x7_3).f1) ((rd_T56 ((rd_T51 l0 x5_1).f1) x7_3).f2) ((rd_T56 ((rd_T51 l0 x5_1).f1) x7_3).f3) ((rd_T56 ((rd_T51 l0 x5_1).f1) x7_3).f4))) = some (r1, r2) := H
                                    have A34 := Aside0.mk A340
                                    clear A340
                                    by_cases c35 : t132 = true
                                    · subst c35
                                      have H1 : (if ((rd_T56 ((rd_T51 l0 x5_1).f1) x7_3).f4) < (-2147483648) then (haymowref02_Write.j3 k3 l0 x4_3 x5_1 x7_3 true ((rd_T51 l0 x5_1).f0) ((rd_T51 l0 x5_1).f1) ((rd_T56 ((rd_T51 l0 x5_1).f1) x7_3).f0) ((rd_T56 ((rd_T51 l0 x5_1).f1) x7_3).f1) ((rd_T56 ((rd_T51 l0 x5_1).f1) x7_3).f2) ((rd_T56 ((rd_T51 l0 x5_1).f1) x7_3).f3) ((rd_T56 ((rd_T51 l0 x5_1).f1) x7_3).f4)) else (haymowref02_Write.j3 k3 l0 x4_3 x5_1 x7_3 (decide (((rd_T56 ((rd_T51 l0 x5_1).f1) x7_3).f4) > 2147483647)) ((rd_T51 l0 x5_1).f0) ((rd_T51 l0 x5_1).f1) ((rd_T56 ((rd_T51 l0 x5_1).f1) x7_3).f0) ((rd_T56 ((rd_T51 l0 x5_1).f1) x7_3).f1) ((rd_T56 ((rd_T51 l0 x5_1).f1) x7_3).f2) ((rd_T56 ((rd_T51 l0 x5_1).f1) x7_3).f3) ((rd_T56 ((rd_T51 l0 x5_1).f1) x7_3).f4))) = some (r1, r2) := by rw [if_pos rfl] at H; exact H
                                      clear H
                                      have H := H1
                                      clear H1
                                      by_cases c36 : ((rd_T56 ((rd_T51 l0 x5_1).f1) x7_3).f4) < (-2147483648)
                                      · rw [if_pos c36] at H
                                        have c36b0 : decide (((rd_T56 ((rd_T51 l0 x5_1).f1) x7_3).f4) < (-2147483648)) = true := decide_eq_true c36
                                        clear c36
                                        (first | rw [c36b0] | (simp only [i64_w, i32_w]; rw [c36b0]) | skip)
                                        have H' := Aside0.mk H
                                        clear H
                                        have hnb37 := NB128_119.out
                                        have hnc37 := NB119_128.out
                                        have hcz38_0 : w25.cell? ⟨gb128, 0, none⟩ = some (.int .i64 0) := (blk_cell BK128.out 0).trans rfl
                                        have hcz38_1 : w25.cell? ⟨gb128, 1, none⟩ = some (.int .i64 0) := (blk_cell BK128.out 1).trans rfl
                                        have hcz38_2 : w25.cell? ⟨gb128, 2, none⟩ = some (.int .i64 0) := (blk_cell BK128.out 2).trans rfl
                                        have hcz38_3 : w25.cell? ⟨gb128, 3, none⟩ = some (.int .i64 0) := (blk_cell BK128.out 3).trans rfl
                                        have hcz38_4 : w25.cell? ⟨gb128, 4, none⟩ = some (.int .i64 0) := (blk_cell BK128.out 4).trans rfl
                                        have hfz38_0 := blk_frozen BK128.out 0
                                        have hfz38_1 := blk_frozen BK128.out 1
                                        have hfz38_2 := blk_frozen BK128.out 2
                                        have hfz38_3 := blk_frozen BK128.out 3
                                        have hfz38_4 := blk_frozen BK128.out 4
                                        go_wp2_with (first | ((with_reducible refine gate_callee (f := 21) rfl ?_); refine goesL_ (some 61) rfl rfl Try.func21 (by kernel_rfl) rfl #[.int .i64 ((rd_T56 ((rd_T51 l0 x5_1).f1) x7_3).f0)] rfl (by (try simp only [List.map_toArray, List.map_cons, List.map_nil]); first | done | rfl | (simp only [List.length_drop, List.length_take]; rfl)) ?_; (with_reducible refine (haymowref02_fits.calls ((rd_T56 ((rd_T51 l0 x5_1).f1) x7_3).f0) true _ A28.out).mono ?_); rintro e w' ⟨rfl, ⟨nd, rfl⟩⟩; refine ⟨_, rfl, ?_⟩) | (go_at_call 21; (with_reducible refine (haymowref02_fits.calls ((rd_T56 ((rd_T51 l0 x5_1).f1) x7_3).f1) true _ A30.out).mono ?_); rintro e w' ⟨rfl, ⟨nd, rfl⟩⟩) | (go_at_call 21; (with_reducible refine (haymowref02_fits.calls ((rd_T56 ((rd_T51 l0 x5_1).f1) x7_3).f2) true _ A32.out).mono ?_); rintro e w' ⟨rfl, ⟨nd, rfl⟩⟩) | (go_at_call 21; (with_reducible refine (haymowref02_fits.calls ((rd_T56 ((rd_T51 l0 x5_1).f1) x7_3).f3) true _ A34.out).mono ?_); rintro e w' ⟨rfl, ⟨nd, rfl⟩⟩))
                                        go_meet
                                        case rel => exact ⟨_, (true), (by first | rfl | (simp; done) | (simp [*]; done)), H', ⟨by have := HK1.out; have := HJ6.out; have := HK3.out; first | omega | exact Nat.le_refl _⟩, ⟨by (with_reducible repeat (first | apply Kd.R_alloc | apply Kd.R_drewN | apply Kd.R_drew)); exact Kd.R_mono (Kd.R_far (p := ⟨gb128, 4, none⟩) (Kd.R_far (p := ⟨gb128, 3, none⟩) (Kd.R_far (p := ⟨gb128, 2, none⟩) (Kd.R_far (p := ⟨gb128, 1, none⟩) (Kd.R_far (p := ⟨gb128, 0, none⟩) (Kd.R_types HO_4.out BK128.out (by decide)) (fun _ hk => hk.2) (.int .i64 ((rd_T56 ((rd_T51 l0 x5_1).f1) x7_3).f0))) (fun _ hk => hk.2) (.int .i64 ((rd_T56 ((rd_T51 l0 x5_1).f1) x7_3).f1))) (fun _ hk => hk.2) (.int .i64 ((rd_T56 ((rd_T51 l0 x5_1).f1) x7_3).f2))) (fun _ hk => hk.2) (.int .i64 ((rd_T56 ((rd_T51 l0 x5_1).f1) x7_3).f3))) (fun _ hk => hk.2) (.int .i64 ((rd_T56 ((rd_T51 l0 x5_1).f1) x7_3).f4))) (fun _ hk => trivial)⟩, ⟨by (with_reducible repeat (first | refine blk_drewN ?_ _ | refine blk_drew ?_ | refine blk_alloc ?_ _)); refine blk_far ?_ NB119_128.out _; (with_reducible repeat (first | refine blk_drewN ?_ _ | refine blk_drew ?_ | refine blk_alloc ?_ _)); refine blk_far ?_ NB119_128.out _; (with_reducible repeat (first | refine blk_drewN ?_ _ | refine blk_drew ?_ | refine blk_alloc ?_ _)); refine blk_far ?_ NB119_128.out _; (with_reducible repeat (first | refine blk_drewN ?_ _ | refine blk_drew ?_ | refine blk_alloc ?_ _)); refine blk_far ?_ NB119_128.out _; (with_reducible repeat (first | refine blk_drewN ?_ _ | refine blk_drew ?_ | refine blk_alloc ?_ _)); refine blk_far ?_ NB119_128.out _; (with_reducible repeat (first | refine blk_drewN ?_ _ | refine blk_drew ?_ | refine blk_alloc ?_ _)); exact BK119.out⟩, ⟨by (with_reducible repeat (first | refine blk_drewN ?_ _ | refine blk_drew ?_ | refine blk_alloc ?_ _)); refine blk_put (cs := #[.int .i64 ((rd_T56 ((rd_T51 l0 x5_1).f1) x7_3).f0), .int .i64 ((rd_T56 ((rd_T51 l0 x5_1).f1) x7_3).f1), .int .i64 ((rd_T56 ((rd_T51 l0 x5_1).f1) x7_3).f2), .int .i64 ((rd_T56 ((rd_T51 l0 x5_1).f1) x7_3).f3), .int .i64 0]) ?_ 4 _ rfl; (with_reducible repeat (first | refine blk_drewN ?_ _ | refine blk_drew ?_ | refine blk_alloc ?_ _)); refine blk_put (cs := #[.int .i64 ((rd_T56 ((rd_T51 l0 x5_1).f1) x7_3).f0), .int .i64 ((rd_T56 ((rd_T51 l0 x5_1).f1) x7_3).f1), .int .i64 ((rd_T56 ((rd_T51 l0 x5_1).f1) x7_3).f2), .int .i64 0, .int .i64 0]) ?_ 3 _ rfl; (with_reducible repeat (first | refine blk_drewN ?_ _ | refine blk_drew ?_ | refine blk_alloc ?_ _)); refine blk_put (cs := #[.int .i64 ((rd_T56 ((rd_T51 l0 x5_1).f1) x7_3).f0), .int .i64 ((rd_T56 ((rd_T51 l0 x5_1).f1) x7_3).f1), .int .i64 0, .int .i64 0, .int .i64 0]) ?_ 2 _ rfl; (with_reducible repeat (first | refine blk_drewN ?_ _ | refine blk_drew ?_ | refine blk_alloc ?_ _)); refine blk_put (cs := #[.int .i64 ((rd_T56 ((rd_T51 l0 x5_1).f1) x7_3).f0), .int .i64 0, .int .i64 0, .int .i64 0, .int .i64 0]) ?_ 1 _ rfl; (with_reducible repeat (first | refine blk_drewN ?_ _ | refine blk_drew ?_ | refine blk_alloc ?_ _)); refine blk_put (cs := #[.int .i64 0, .int .i64 0, .int .i64 0, .int .i64 0, .int .i64 0]) ?_ 0 _ rfl; (with_reducible repeat (first | refine blk_drewN ?_ _ | refine blk_drew ?_ | refine blk_alloc ?_ _)); exact BK128.out⟩, ⟨by repeat (first | (with_reducible first | exact HB.out | apply below_alloc | apply pw_below_drewN | apply below_drew1 | refine below_set ?_ GE119.out | refine below_set ?_ GE128.out) | exact HB.out)⟩⟩
                                      · rw [if_neg c36] at H
                                        have c36b0 : decide (((rd_T56 ((rd_T51 l0 x5_1).f1) x7_3).f4) < (-2147483648)) = false := decide_eq_false c36
                                        clear c36
                                        (first | rw [c36b0] | (simp only [i64_w, i32_w]; rw [c36b0]) | skip)
                                        have H' := Aside0.mk H
                                        clear H
                                        have hnb39 := NB128_119.out
                                        have hnc39 := NB119_128.out
                                        have hcz40_0 : w25.cell? ⟨gb128, 0, none⟩ = some (.int .i64 0) := (blk_cell BK128.out 0).trans rfl
                                        have hcz40_1 : w25.cell? ⟨gb128, 1, none⟩ = some (.int .i64 0) := (blk_cell BK128.out 1).trans rfl
                                        have hcz40_2 : w25.cell? ⟨gb128, 2, none⟩ = some (.int .i64 0) := (blk_cell BK128.out 2).trans rfl
                                        have hcz40_3 : w25.cell? ⟨gb128, 3, none⟩ = some (.int .i64 0) := (blk_cell BK128.out 3).trans rfl
                                        have hcz40_4 : w25.cell? ⟨gb128, 4, none⟩ = some (.int .i64 0) := (blk_cell BK128.out 4).trans rfl
                                        have hfz40_0 := blk_frozen BK128.out 0
                                        have hfz40_1 := blk_frozen BK128.out 1
                                        have hfz40_2 := blk_frozen BK128.out 2
                                        have hfz40_3 := blk_frozen BK128.out 3
                                        have hfz40_4 := blk_frozen BK128.out 4
                                        go_wp2_with (first | ((with_reducible refine gate_callee (f := 21) rfl ?_); refine goesL_ (some 61) rfl rfl Try.func21 (by kernel_rfl) rfl #[.int .i64 ((rd_T56 ((rd_T51 l0 x5_1).f1) x7_3).f0)] rfl (by (try simp only [List.map_toArray, List.map_cons, List.map_nil]); first | done | rfl | (simp only [List.length_drop, List.length_take]; rfl)) ?_; (with_reducible refine (haymowref02_fits.calls ((rd_T56 ((rd_T51 l0 x5_1).f1) x7_3).f0) true _ A28.out).mono ?_); rintro e w' ⟨rfl, ⟨nd, rfl⟩⟩; refine ⟨_, rfl, ?_⟩) | (go_at_call 21; (with_reducible refine (haymowref02_fits.calls ((rd_T56 ((rd_T51 l0 x5_1).f1) x7_3).f1) true _ A30.out).mono ?_); rintro e w' ⟨rfl, ⟨nd, rfl⟩⟩) | (go_at_call 21; (with_reducible refine (haymowref02_fits.calls ((rd_T56 ((rd_T51 l0 x5_1).f1) x7_3).f2) true _ A32.out).mono ?_); rintro e w' ⟨rfl, ⟨nd, rfl⟩⟩) | (go_at_call 21; (with_reducible refine (haymowref02_fits.calls ((rd_T56 ((rd_T51 l0 x5_1).f1) x7_3).f3) true _ A34.out).mono ?_); rintro e w' ⟨rfl, ⟨nd, rfl⟩⟩))
                                        go_meet
                                        case rel => exact ⟨_, (decide (((rd_T56 ((rd_T51 l0 x5_1).f1) x7_3).f4) > 2147483647)), (by first | rfl | (simp; done) | (simp [*]; done)), H', ⟨by have := HK1.out; have := HJ6.out; have := HK3.out; first | omega | exact Nat.le_refl _⟩, ⟨by (with_reducible repeat (first | apply Kd.R_alloc | apply Kd.R_drewN | apply Kd.R_drew)); exact Kd.R_mono (Kd.R_far (p := ⟨gb128, 4, none⟩) (Kd.R_far (p := ⟨gb128, 3, none⟩) (Kd.R_far (p := ⟨gb128, 2, none⟩) (Kd.R_far (p := ⟨gb128, 1, none⟩) (Kd.R_far (p := ⟨gb128, 0, none⟩) (Kd.R_types HO_4.out BK128.out (by decide)) (fun _ hk => hk.2) (.int .i64 ((rd_T56 ((rd_T51 l0 x5_1).f1) x7_3).f0))) (fun _ hk => hk.2) (.int .i64 ((rd_T56 ((rd_T51 l0 x5_1).f1) x7_3).f1))) (fun _ hk => hk.2) (.int .i64 ((rd_T56 ((rd_T51 l0 x5_1).f1) x7_3).f2))) (fun _ hk => hk.2) (.int .i64 ((rd_T56 ((rd_T51 l0 x5_1).f1) x7_3).f3))) (fun _ hk => hk.2) (.int .i64 ((rd_T56 ((rd_T51 l0 x5_1).f1) x7_3).f4))) (fun _ hk => trivial)⟩, ⟨by (with_reducible repeat (first | refine blk_drewN ?_ _ | refine blk_drew ?_ | refine blk_alloc ?_ _)); refine blk_far ?_ NB119_128.out _; (with_reducible repeat (first | refine blk_drewN ?_ _ | refine blk_drew ?_ | refine blk_alloc ?_ _)); refine blk_far ?_ NB119_128.out _; (with_reducible repeat (first | refine blk_drewN ?_ _ | refine blk_drew ?_ | refine blk_alloc ?_ _)); refine blk_far ?_ NB119_128.out _; (with_reducible repeat (first | refine blk_drewN ?_ _ | refine blk_drew ?_ | refine blk_alloc ?_ _)); refine blk_far ?_ NB119_128.out _; (with_reducible repeat (first | refine blk_drewN ?_ _ | refine blk_drew ?_ | refine blk_alloc ?_ _)); refine blk_far ?_ NB119_128.out _; (with_reducible repeat (first | refine blk_drewN ?_ _ | refine blk_drew ?_ | refine blk_alloc ?_ _)); exact BK119.out⟩, ⟨by (with_reducible repeat (first | refine blk_drewN ?_ _ | refine blk_drew ?_ | refine blk_alloc ?_ _)); refine blk_put (cs := #[.int .i64 ((rd_T56 ((rd_T51 l0 x5_1).f1) x7_3).f0), .int .i64 ((rd_T56 ((rd_T51 l0 x5_1).f1) x7_3).f1), .int .i64 ((rd_T56 ((rd_T51 l0 x5_1).f1) x7_3).f2), .int .i64 ((rd_T56 ((rd_T51 l0 x5_1).f1) x7_3).f3), .int .i64 0]) ?_ 4 _ rfl; (with_reducible repeat (first | refine blk_drewN ?_ _ | refine blk_drew ?_ | refine blk_alloc ?_ _)); refine blk_put (cs := #[.int .i64 ((rd_T56 ((rd_T51 l0 x5_1).f1) x7_3).f0), .int .i64 ((rd_T56 ((rd_T51 l0 x5_1).f1) x7_3).f1), .int .i64 ((rd_T56 ((rd_T51 l0 x5_1).f1) x7_3).f2), .int .i64 0, .int .i64 0]) ?_ 3 _ rfl; (with_reducible repeat (first | refine blk_drewN ?_ _ | refine blk_drew ?_ | refine blk_alloc ?_ _)); refine blk_put (cs := #[.int .i64 ((rd_T56 ((rd_T51 l0 x5_1).f1) x7_3).f0), .int .i64 ((rd_T56 ((rd_T51 l0 x5_1).f1) x7_3).f1), .int .i64 0, .int .i64 0, .int .i64 0]) ?_ 2 _ rfl; (with_reducible repeat (first | refine blk_drewN ?_ _ | refine blk_drew ?_ | refine blk_alloc ?_ _)); refine blk_put (cs := #[.int .i64 ((rd_T56 ((rd_T51 l0 x5_1).f1) x7_3).f0), .int .i64 0, .int .i64 0, .int .i64 0, .int .i64 0]) ?_ 1 _ rfl; (with_reducible repeat (first | refine blk_drewN ?_ _ | refine blk_drew ?_ | refine blk_alloc ?_ _)); refine blk_put (cs := #[.int .i64 0, .int .i64 0, .int .i64 0, .int .i64 0, .int .i64 0]) ?_ 0 _ rfl; (with_reducible repeat (first | refine blk_drewN ?_ _ | refine blk_drew ?_ | refine blk_alloc ?_ _)); exact BK128.out⟩, ⟨by repeat (first | (with_reducible first | exact HB.out | apply below_alloc | apply pw_below_drewN | apply below_drew1 | refine below_set ?_ GE119.out | refine below_set ?_ GE128.out) | exact HB.out)⟩⟩
                                    · replace c35 := Bool.eq_false_iff.mpr c35
                                      subst c35
                                      have H1 : (haymowref02_Write.j3 k3 l0 x4_3 x5_1 x7_3 true ((rd_T51 l0 x5_1).f0) ((rd_T51 l0 x5_1).f1) ((rd_T56 ((rd_T51 l0 x5_1).f1) x7_3).f0) ((rd_T56 ((rd_T51 l0 x5_1).f1) x7_3).f1) ((rd_T56 ((rd_T51 l0 x5_1).f1) x7_3).f2) ((rd_T56 ((rd_T51 l0 x5_1).f1) x7_3).f3) ((rd_T56 ((rd_T51 l0 x5_1).f1) x7_3).f4)) = some (r1, r2) := by rw [if_neg (show ¬ (false = true) by decide)] at H; exact H
                                      clear H
                                      have H := H1
                                      clear H1
                                      have H' := Aside0.mk H
                                      clear H
                                      have hnb41 := NB128_119.out
                                      have hnc41 := NB119_128.out
                                      have hcz42_0 : w25.cell? ⟨gb128, 0, none⟩ = some (.int .i64 0) := (blk_cell BK128.out 0).trans rfl
                                      have hcz42_1 : w25.cell? ⟨gb128, 1, none⟩ = some (.int .i64 0) := (blk_cell BK128.out 1).trans rfl
                                      have hcz42_2 : w25.cell? ⟨gb128, 2, none⟩ = some (.int .i64 0) := (blk_cell BK128.out 2).trans rfl
                                      have hcz42_3 : w25.cell? ⟨gb128, 3, none⟩ = some (.int .i64 0) := (blk_cell BK128.out 3).trans rfl
                                      have hcz42_4 : w25.cell? ⟨gb128, 4, none⟩ = some (.int .i64 0) := (blk_cell BK128.out 4).trans rfl
                                      have hfz42_0 := blk_frozen BK128.out 0
                                      have hfz42_1 := blk_frozen BK128.out 1
                                      have hfz42_2 := blk_frozen BK128.out 2
                                      have hfz42_3 := blk_frozen BK128.out 3
                                      have hfz42_4 := blk_frozen BK128.out 4
                                      go_wp2_with (first | ((with_reducible refine gate_callee (f := 21) rfl ?_); refine goesL_ (some 61) rfl rfl Try.func21 (by kernel_rfl) rfl #[.int .i64 ((rd_T56 ((rd_T51 l0 x5_1).f1) x7_3).f0)] rfl (by (try simp only [List.map_toArray, List.map_cons, List.map_nil]); first | done | rfl | (simp only [List.length_drop, List.length_take]; rfl)) ?_; (with_reducible refine (haymowref02_fits.calls ((rd_T56 ((rd_T51 l0 x5_1).f1) x7_3).f0) true _ A28.out).mono ?_); rintro e w' ⟨rfl, ⟨nd, rfl⟩⟩; refine ⟨_, rfl, ?_⟩) | (go_at_call 21; (with_reducible refine (haymowref02_fits.calls ((rd_T56 ((rd_T51 l0 x5_1).f1) x7_3).f1) true _ A30.out).mono ?_); rintro e w' ⟨rfl, ⟨nd, rfl⟩⟩) | (go_at_call 21; (with_reducible refine (haymowref02_fits.calls ((rd_T56 ((rd_T51 l0 x5_1).f1) x7_3).f2) true _ A32.out).mono ?_); rintro e w' ⟨rfl, ⟨nd, rfl⟩⟩) | (go_at_call 21; (with_reducible refine (haymowref02_fits.calls ((rd_T56 ((rd_T51 l0 x5_1).f1) x7_3).f3) false _ A34.out).mono ?_); rintro e w' ⟨rfl, ⟨nd, rfl⟩⟩))
                                      go_meet
                                      case rel => exact ⟨_, (true), (by first | rfl | (simp; done) | (simp [*]; done)), H', ⟨by have := HK1.out; have := HJ6.out; have := HK3.out; first | omega | exact Nat.le_refl _⟩, ⟨by (with_reducible repeat (first | apply Kd.R_alloc | apply Kd.R_drewN | apply Kd.R_drew)); exact Kd.R_mono (Kd.R_far (p := ⟨gb128, 4, none⟩) (Kd.R_far (p := ⟨gb128, 3, none⟩) (Kd.R_far (p := ⟨gb128, 2, none⟩) (Kd.R_far (p := ⟨gb128, 1, none⟩) (Kd.R_far (p := ⟨gb128, 0, none⟩) (Kd.R_types HO_4.out BK128.out (by decide)) (fun _ hk => hk.2) (.int .i64 ((rd_T56 ((rd_T51 l0 x5_1).f1) x7_3).f0))) (fun _ hk => hk.2) (.int .i64 ((rd_T56 ((rd_T51 l0 x5_1).f1) x7_3).f1))) (fun _ hk => hk.2) (.int .i64 ((rd_T56 ((rd_T51 l0 x5_1).f1) x7_3).f2))) (fun _ hk => hk.2) (.int .i64 ((rd_T56 ((rd_T51 l0 x5_1).f1) x7_3).f3))) (fun _ hk => hk.2) (.int .i64 ((rd_T56 ((rd_T51 l0 x5_1).f1) x7_3).f4))) (fun _ hk => trivial)⟩, ⟨by (with_reducible repeat (first | refine blk_drewN ?_ _ | refine blk_drew ?_ | refine blk_alloc ?_ _)); refine blk_far ?_ NB119_128.out _; (with_reducible repeat (first | refine blk_drewN ?_ _ | refine blk_drew ?_ | refine blk_alloc ?_ _)); refine blk_far ?_ NB119_128.out _; (with_reducible repeat (first | refine blk_drewN ?_ _ | refine blk_drew ?_ | refine blk_alloc ?_ _)); refine blk_far ?_ NB119_128.out _; (with_reducible repeat (first | refine blk_drewN ?_ _ | refine blk_drew ?_ | refine blk_alloc ?_ _)); refine blk_far ?_ NB119_128.out _; (with_reducible repeat (first | refine blk_drewN ?_ _ | refine blk_drew ?_ | refine blk_alloc ?_ _)); refine blk_far ?_ NB119_128.out _; (with_reducible repeat (first | refine blk_drewN ?_ _ | refine blk_drew ?_ | refine blk_alloc ?_ _)); exact BK119.out⟩, ⟨by (with_reducible repeat (first | refine blk_drewN ?_ _ | refine blk_drew ?_ | refine blk_alloc ?_ _)); refine blk_put (cs := #[.int .i64 ((rd_T56 ((rd_T51 l0 x5_1).f1) x7_3).f0), .int .i64 ((rd_T56 ((rd_T51 l0 x5_1).f1) x7_3).f1), .int .i64 ((rd_T56 ((rd_T51 l0 x5_1).f1) x7_3).f2), .int .i64 ((rd_T56 ((rd_T51 l0 x5_1).f1) x7_3).f3), .int .i64 0]) ?_ 4 _ rfl; (with_reducible repeat (first | refine blk_drewN ?_ _ | refine blk_drew ?_ | refine blk_alloc ?_ _)); refine blk_put (cs := #[.int .i64 ((rd_T56 ((rd_T51 l0 x5_1).f1) x7_3).f0), .int .i64 ((rd_T56 ((rd_T51 l0 x5_1).f1) x7_3).f1), .int .i64 ((rd_T56 ((rd_T51 l0 x5_1).f1) x7_3).f2), .int .i64 0, .int .i64 0]) ?_ 3 _ rfl; (with_reducible repeat (first | refine blk_drewN ?_ _ | refine blk_drew ?_ | refine blk_alloc ?_ _)); refine blk_put (cs := #[.int .i64 ((rd_T56 ((rd_T51 l0 x5_1).f1) x7_3).f0), .int .i64 ((rd_T56 ((rd_T51 l0 x5_1).f1) x7_3).f1), .int .i64 0, .int .i64 0, .int .i64 0]) ?_ 2 _ rfl; (with_reducible repeat (first | refine blk_drewN ?_ _ | refine blk_drew ?_ | refine blk_alloc ?_ _)); refine blk_put (cs := #[.int .i64 ((rd_T56 ((rd_T51 l0 x5_1).f1) x7_3).f0), .int .i64 0, .int .i64 0, .int .i64 0, .int .i64 0]) ?_ 1 _ rfl; (with_reducible repeat (first | refine blk_drewN ?_ _ | refine blk_drew ?_ | refine blk_alloc ?_ _)); refine blk_put (cs := #[.int .i64 0, .int .i64 0, .int .i64 0, .int .i64 0, .int .i64 0]) ?_ 0 _ rfl; (with_reducible repeat (first | refine blk_drewN ?_ _ | refine blk_drew ?_ | refine blk_alloc ?_ _)); exact BK128.out⟩, ⟨by repeat (first | (with_reducible first | exact HB.out | apply below_alloc | apply pw_below_drewN | apply below_drew1 | refine below_set ?_ GE119.out | refine below_set ?_ GE128.out) | exact HB.out)⟩⟩
                                  · replace c33 := Bool.eq_false_iff.mpr c33
                                    subst c33
                                    have H1 : (haymowref02_Write.j3 k3 l0 x4_3 x5_1 x7_3 true ((rd_T51 l0 x5_1).f0) ((rd_T51 l0 x5_1).f1) ((rd_T56 ((rd_T51 l0 x5_1).f1) x7_3).f0) ((rd_T56 ((rd_T51 l0 x5_1).f1) x7_3).f1) ((rd_T56 ((rd_T51 l0 x5_1).f1) x7_3).f2) ((rd_T56 ((rd_T51 l0 x5_1).f1) x7_3).f3) ((rd_T56 ((rd_T51 l0 x5_1).f1) x7_3).f4)) = some (r1, r2) := by rw [if_neg (show ¬ (false = true) by decide)] at H; exact H
                                    clear H
                                    have H := H1
                                    clear H1
                                    have H' := Aside0.mk H
                                    clear H
                                    have hnb43 := NB128_119.out
                                    have hnc43 := NB119_128.out
                                    have hcz44_0 : w25.cell? ⟨gb128, 0, none⟩ = some (.int .i64 0) := (blk_cell BK128.out 0).trans rfl
                                    have hcz44_1 : w25.cell? ⟨gb128, 1, none⟩ = some (.int .i64 0) := (blk_cell BK128.out 1).trans rfl
                                    have hcz44_2 : w25.cell? ⟨gb128, 2, none⟩ = some (.int .i64 0) := (blk_cell BK128.out 2).trans rfl
                                    have hcz44_3 : w25.cell? ⟨gb128, 3, none⟩ = some (.int .i64 0) := (blk_cell BK128.out 3).trans rfl
                                    have hcz44_4 : w25.cell? ⟨gb128, 4, none⟩ = some (.int .i64 0) := (blk_cell BK128.out 4).trans rfl
                                    have hfz44_0 := blk_frozen BK128.out 0
                                    have hfz44_1 := blk_frozen BK128.out 1
                                    have hfz44_2 := blk_frozen BK128.out 2
                                    have hfz44_3 := blk_frozen BK128.out 3
                                    have hfz44_4 := blk_frozen BK128.out 4
                                    go_wp2_with (first | ((with_reducible refine gate_callee (f := 21) rfl ?_); refine goesL_ (some 61) rfl rfl Try.func21 (by kernel_rfl) rfl #[.int .i64 ((rd_T56 ((rd_T51 l0 x5_1).f1) x7_3).f0)] rfl (by (try simp only [List.map_toArray, List.map_cons, List.map_nil]); first | done | rfl | (simp only [List.length_drop, List.length_take]; rfl)) ?_; (with_reducible refine (haymowref02_fits.calls ((rd_T56 ((rd_T51 l0 x5_1).f1) x7_3).f0) true _ A28.out).mono ?_); rintro e w' ⟨rfl, ⟨nd, rfl⟩⟩; refine ⟨_, rfl, ?_⟩) | (go_at_call 21; (with_reducible refine (haymowref02_fits.calls ((rd_T56 ((rd_T51 l0 x5_1).f1) x7_3).f1) true _ A30.out).mono ?_); rintro e w' ⟨rfl, ⟨nd, rfl⟩⟩) | (go_at_call 21; (with_reducible refine (haymowref02_fits.calls ((rd_T56 ((rd_T51 l0 x5_1).f1) x7_3).f2) false _ A32.out).mono ?_); rintro e w' ⟨rfl, ⟨nd, rfl⟩⟩))
                                    go_meet
                                    case rel => exact ⟨_, (true), (by first | rfl | (simp; done) | (simp [*]; done)), H', ⟨by have := HK1.out; have := HJ6.out; have := HK3.out; first | omega | exact Nat.le_refl _⟩, ⟨by (with_reducible repeat (first | apply Kd.R_alloc | apply Kd.R_drewN | apply Kd.R_drew)); exact Kd.R_mono (Kd.R_far (p := ⟨gb128, 4, none⟩) (Kd.R_far (p := ⟨gb128, 3, none⟩) (Kd.R_far (p := ⟨gb128, 2, none⟩) (Kd.R_far (p := ⟨gb128, 1, none⟩) (Kd.R_far (p := ⟨gb128, 0, none⟩) (Kd.R_types HO_4.out BK128.out (by decide)) (fun _ hk => hk.2) (.int .i64 ((rd_T56 ((rd_T51 l0 x5_1).f1) x7_3).f0))) (fun _ hk => hk.2) (.int .i64 ((rd_T56 ((rd_T51 l0 x5_1).f1) x7_3).f1))) (fun _ hk => hk.2) (.int .i64 ((rd_T56 ((rd_T51 l0 x5_1).f1) x7_3).f2))) (fun _ hk => hk.2) (.int .i64 ((rd_T56 ((rd_T51 l0 x5_1).f1) x7_3).f3))) (fun _ hk => hk.2) (.int .i64 ((rd_T56 ((rd_T51 l0 x5_1).f1) x7_3).f4))) (fun _ hk => trivial)⟩, ⟨by (with_reducible repeat (first | refine blk_drewN ?_ _ | refine blk_drew ?_ | refine blk_alloc ?_ _)); refine blk_far ?_ NB119_128.out _; (with_reducible repeat (first | refine blk_drewN ?_ _ | refine blk_drew ?_ | refine blk_alloc ?_ _)); refine blk_far ?_ NB119_128.out _; (with_reducible repeat (first | refine blk_drewN ?_ _ | refine blk_drew ?_ | refine blk_alloc ?_ _)); refine blk_far ?_ NB119_128.out _; (with_reducible repeat (first | refine blk_drewN ?_ _ | refine blk_drew ?_ | refine blk_alloc ?_ _)); refine blk_far ?_ NB119_128.out _; (with_reducible repeat (first | refine blk_drewN ?_ _ | refine blk_drew ?_ | refine blk_alloc ?_ _)); refine blk_far ?_ NB119_128.out _; (with_reducible repeat (first | refine blk_drewN ?_ _ | refine blk_drew ?_ | refine blk_alloc ?_ _)); exact BK119.out⟩, ⟨by (with_reducible repeat (first | refine blk_drewN ?_ _ | refine blk_drew ?_ | refine blk_alloc ?_ _)); refine blk_put (cs := #[.int .i64 ((rd_T56 ((rd_T51 l0 x5_1).f1) x7_3).f0), .int .i64 ((rd_T56 ((rd_T51 l0 x5_1).f1) x7_3).f1), .int .i64 ((rd_T56 ((rd_T51 l0 x5_1).f1) x7_3).f2), .int .i64 ((rd_T56 ((rd_T51 l0 x5_1).f1) x7_3).f3), .int .i64 0]) ?_ 4 _ rfl; (with_reducible repeat (first | refine blk_drewN ?_ _ | refine blk_drew ?_ | refine blk_alloc ?_ _)); refine blk_put (cs := #[.int .i64 ((rd_T56 ((rd_T51 l0 x5_1).f1) x7_3).f0), .int .i64 ((rd_T56 ((rd_T51 l0 x5_1).f1) x7_3).f1), .int .i64 ((rd_T56 ((rd_T51 l0 x5_1).f1) x7_3).f2), .int .i64 0, .int .i64 0]) ?_ 3 _ rfl; (with_reducible repeat (first | refine blk_drewN ?_ _ | refine blk_drew ?_ | refine blk_alloc ?_ _)); refine blk_put (cs := #[.int .i64 ((rd_T56 ((rd_T51 l0 x5_1).f1) x7_3).f0), .int .i64 ((rd_T56 ((rd_T51 l0 x5_1).f1) x7_3).f1), .int .i64 0, .int .i64 0, .int .i64 0]) ?_ 2 _ rfl; (with_reducible repeat (first | refine blk_drewN ?_ _ | refine blk_drew ?_ | refine blk_alloc ?_ _)); refine blk_put (cs := #[.int .i64 ((rd_T56 ((rd_T51 l0 x5_1).f1) x7_3).f0), .int .i64 0, .int .i64 0, .int .i64 0, .int .i64 0]) ?_ 1 _ rfl; (with_reducible repeat (first | refine blk_drewN ?_ _ | refine blk_drew ?_ | refine blk_alloc ?_ _)); refine blk_put (cs := #[.int .i64 0, .int .i64 0, .int .i64 0, .int .i64 0, .int .i64 0]) ?_ 0 _ rfl; (with_reducible repeat (first | refine blk_drewN ?_ _ | refine blk_drew ?_ | refine blk_alloc ?_ _)); exact BK128.out⟩, ⟨by repeat (first | (with_reducible first | exact HB.out | apply below_alloc | apply pw_below_drewN | apply below_drew1 | refine below_set ?_ GE119.out | refine below_set ?_ GE128.out) | exact HB.out)⟩⟩
                                · replace c31 := Bool.eq_false_iff.mpr c31
                                  subst c31
                                  have H1 : (haymowref02_Write.j3 k3 l0 x4_3 x5_1 x7_3 true ((rd_T51 l0 x5_1).f0) ((rd_T51 l0 x5_1).f1) ((rd_T56 ((rd_T51 l0 x5_1).f1) x7_3).f0) ((rd_T56 ((rd_T51 l0 x5_1).f1) x7_3).f1) ((rd_T56 ((rd_T51 l0 x5_1).f1) x7_3).f2) ((rd_T56 ((rd_T51 l0 x5_1).f1) x7_3).f3) ((rd_T56 ((rd_T51 l0 x5_1).f1) x7_3).f4)) = some (r1, r2) := by rw [if_neg (show ¬ (false = true) by decide)] at H; exact H
                                  clear H
                                  have H := H1
                                  clear H1
                                  have H' := Aside0.mk H
                                  clear H
                                  have hnb45 := NB128_119.out
                                  have hnc45 := NB119_128.out
                                  have hcz46_0 : w25.cell? ⟨gb128, 0, none⟩ = some (.int .i64 0) := (blk_cell BK128.out 0).trans rfl
                                  have hcz46_1 : w25.cell? ⟨gb128, 1, none⟩ = some (.int .i64 0) := (blk_cell BK128.out 1).trans rfl
                                  have hcz46_2 : w25.cell? ⟨gb128, 2, none⟩ = some (.int .i64 0) := (blk_cell BK128.out 2).trans rfl
                                  have hcz46_3 : w25.cell? ⟨gb128, 3, none⟩ = some (.int .i64 0) := (blk_cell BK128.out 3).trans rfl
                                  have hcz46_4 : w25.cell? ⟨gb128, 4, none⟩ = some (.int .i64 0) := (blk_cell BK128.out 4).trans rfl
                                  have hfz46_0 := blk_frozen BK128.out 0
                                  have hfz46_1 := blk_frozen BK128.out 1
                                  have hfz46_2 := blk_frozen BK128.out 2
                                  have hfz46_3 := blk_frozen BK128.out 3
                                  have hfz46_4 := blk_frozen BK128.out 4
                                  go_wp2_with (first | ((with_reducible refine gate_callee (f := 21) rfl ?_); refine goesL_ (some 61) rfl rfl Try.func21 (by kernel_rfl) rfl #[.int .i64 ((rd_T56 ((rd_T51 l0 x5_1).f1) x7_3).f0)] rfl (by (try simp only [List.map_toArray, List.map_cons, List.map_nil]); first | done | rfl | (simp only [List.length_drop, List.length_take]; rfl)) ?_; (with_reducible refine (haymowref02_fits.calls ((rd_T56 ((rd_T51 l0 x5_1).f1) x7_3).f0) true _ A28.out).mono ?_); rintro e w' ⟨rfl, ⟨nd, rfl⟩⟩; refine ⟨_, rfl, ?_⟩) | (go_at_call 21; (with_reducible refine (haymowref02_fits.calls ((rd_T56 ((rd_T51 l0 x5_1).f1) x7_3).f1) false _ A30.out).mono ?_); rintro e w' ⟨rfl, ⟨nd, rfl⟩⟩))
                                  go_meet
                                  case rel => exact ⟨_, (true), (by first | rfl | (simp; done) | (simp [*]; done)), H', ⟨by have := HK1.out; have := HJ6.out; have := HK3.out; first | omega | exact Nat.le_refl _⟩, ⟨by (with_reducible repeat (first | apply Kd.R_alloc | apply Kd.R_drewN | apply Kd.R_drew)); exact Kd.R_mono (Kd.R_far (p := ⟨gb128, 4, none⟩) (Kd.R_far (p := ⟨gb128, 3, none⟩) (Kd.R_far (p := ⟨gb128, 2, none⟩) (Kd.R_far (p := ⟨gb128, 1, none⟩) (Kd.R_far (p := ⟨gb128, 0, none⟩) (Kd.R_types HO_4.out BK128.out (by decide)) (fun _ hk => hk.2) (.int .i64 ((rd_T56 ((rd_T51 l0 x5_1).f1) x7_3).f0))) (fun _ hk => hk.2) (.int .i64 ((rd_T56 ((rd_T51 l0 x5_1).f1) x7_3).f1))) (fun _ hk => hk.2) (.int .i64 ((rd_T56 ((rd_T51 l0 x5_1).f1) x7_3).f2))) (fun _ hk => hk.2) (.int .i64 ((rd_T56 ((rd_T51 l0 x5_1).f1) x7_3).f3))) (fun _ hk => hk.2) (.int .i64 ((rd_T56 ((rd_T51 l0 x5_1).f1) x7_3).f4))) (fun _ hk => trivial)⟩, ⟨by (with_reducible repeat (first | refine blk_drewN ?_ _ | refine blk_drew ?_ | refine blk_alloc ?_ _)); refine blk_far ?_ NB119_128.out _; (with_reducible repeat (first | refine blk_drewN ?_ _ | refine blk_drew ?_ | refine blk_alloc ?_ _)); refine blk_far ?_ NB119_128.out _; (with_reducible repeat (first | refine blk_drewN ?_ _ | refine blk_drew ?_ | refine blk_alloc ?_ _)); refine blk_far ?_ NB119_128.out _; (with_reducible repeat (first | refine blk_drewN ?_ _ | refine blk_drew ?_ | refine blk_alloc ?_ _)); refine blk_far ?_ NB119_128.out _; (with_reducible repeat (first | refine blk_drewN ?_ _ | refine blk_drew ?_ | refine blk_alloc ?_ _)); refine blk_far ?_ NB119_128.out _; (with_reducible repeat (first | refine blk_drewN ?_ _ | refine blk_drew ?_ | refine blk_alloc ?_ _)); exact BK119.out⟩, ⟨by (with_reducible repeat (first | refine blk_drewN ?_ _ | refine blk_drew ?_ | refine blk_alloc ?_ _)); refine blk_put (cs := #[.int .i64 ((rd_T56 ((rd_T51 l0 x5_1).f1) x7_3).f0), .int .i64 ((rd_T56 ((rd_T51 l0 x5_1).f1) x7_3).f1), .int .i64 ((rd_T56 ((rd_T51 l0 x5_1).f1) x7_3).f2), .int .i64 ((rd_T56 ((rd_T51 l0 x5_1).f1) x7_3).f3), .int .i64 0]) ?_ 4 _ rfl; (with_reducible repeat (first | refine blk_drewN ?_ _ | refine blk_drew ?_ | refine blk_alloc ?_ _)); refine blk_put (cs := #[.int .i64 ((rd_T56 ((rd_T51 l0 x5_1).f1) x7_3).f0), .int .i64 ((rd_T56 ((rd_T51 l0 x5_1).f1) x7_3).f1), .int .i64 ((rd_T56 ((rd_T51 l0 x5_1).f1) x7_3).f2), .int .i64 0, .int .i64 0]) ?_ 3 _ rfl; (with_reducible repeat (first | refine blk_drewN ?_ _ | refine blk_drew ?_ | refine blk_alloc ?_ _)); refine blk_put (cs := #[.int .i64 ((rd_T56 ((rd_T51 l0 x5_1).f1) x7_3).f0), .int .i64 ((rd_T56 ((rd_T51 l0 x5_1).f1) x7_3).f1), .int .i64 0, .int .i64 0, .int .i64 0]) ?_ 2 _ rfl; (with_reducible repeat (first | refine blk_drewN ?_ _ | refine blk_drew ?_ | refine blk_alloc ?_ _)); refine blk_put (cs := #[.int .i64 ((rd_T56 ((rd_T51 l0 x5_1).f1) x7_3).f0), .int .i64 0, .int .i64 0, .int .i64 0, .int .i64 0]) ?_ 1 _ rfl; (with_reducible repeat (first | refine blk_drewN ?_ _ | refine blk_drew ?_ | refine blk_alloc ?_ _)); refine blk_put (cs := #[.int .i64 0, .int .i64 0, .int .i64 0, .int .i64 0, .int .i64 0]) ?_ 0 _ rfl; (with_reducible repeat (first | refine blk_drewN ?_ _ | refine blk_drew ?_ | refine blk_alloc ?_ _)); exact BK128.out⟩, ⟨by repeat (first | (with_reducible first | exact HB.out | apply below_alloc | apply pw_below_drewN | apply below_drew1 | refine below_set ?_ GE119.out | refine below_set ?_ GE128.out) | exact HB.out)⟩⟩
                              · replace c29 := Bool.eq_false_iff.mpr c29
                                subst c29
                                have H1 : (haymowref02_Write.j3 k3 l0 x4_3 x5_1 x7_3 true ((rd_T51 l0 x5_1).f0) ((rd_T51 l0 x5_1).f1) ((rd_T56 ((rd_T51 l0 x5_1).f1) x7_3).f0) ((rd_T56 ((rd_T51 l0 x5_1).f1) x7_3).f1) ((rd_T56 ((rd_T51 l0 x5_1).f1) x7_3).f2) ((rd_T56 ((rd_T51 l0 x5_1).f1) x7_3).f3) ((rd_T56 ((rd_T51 l0 x5_1).f1) x7_3).f4)) = some (r1, r2) := by rw [if_neg (show ¬ (false = true) by decide)] at H; exact H
                                clear H
                                have H := H1
                                clear H1
                                have H' := Aside0.mk H
                                clear H
                                have hnb47 := NB128_119.out
                                have hnc47 := NB119_128.out
                                have hcz48_0 : w25.cell? ⟨gb128, 0, none⟩ = some (.int .i64 0) := (blk_cell BK128.out 0).trans rfl
                                have hcz48_1 : w25.cell? ⟨gb128, 1, none⟩ = some (.int .i64 0) := (blk_cell BK128.out 1).trans rfl
                                have hcz48_2 : w25.cell? ⟨gb128, 2, none⟩ = some (.int .i64 0) := (blk_cell BK128.out 2).trans rfl
                                have hcz48_3 : w25.cell? ⟨gb128, 3, none⟩ = some (.int .i64 0) := (blk_cell BK128.out 3).trans rfl
                                have hcz48_4 : w25.cell? ⟨gb128, 4, none⟩ = some (.int .i64 0) := (blk_cell BK128.out 4).trans rfl
                                have hfz48_0 := blk_frozen BK128.out 0
                                have hfz48_1 := blk_frozen BK128.out 1
                                have hfz48_2 := blk_frozen BK128.out 2
                                have hfz48_3 := blk_frozen BK128.out 3
                                have hfz48_4 := blk_frozen BK128.out 4
                                go_wp2_with (first | ((with_reducible refine gate_callee (f := 21) rfl ?_); refine goesL_ (some 61) rfl rfl Try.func21 (by kernel_rfl) rfl #[.int .i64 ((rd_T56 ((rd_T51 l0 x5_1).f1) x7_3).f0)] rfl (by (try simp only [List.map_toArray, List.map_cons, List.map_nil]); first | done | rfl | (simp only [List.length_drop, List.length_take]; rfl)) ?_; (with_reducible refine (haymowref02_fits.calls ((rd_T56 ((rd_T51 l0 x5_1).f1) x7_3).f0) false _ A28.out).mono ?_); rintro e w' ⟨rfl, ⟨nd, rfl⟩⟩; refine ⟨_, rfl, ?_⟩))
                                go_meet
                                case rel => exact ⟨_, (true), (by first | rfl | (simp; done) | (simp [*]; done)), H', ⟨by have := HK1.out; have := HJ6.out; have := HK3.out; first | omega | exact Nat.le_refl _⟩, ⟨by (with_reducible repeat (first | apply Kd.R_alloc | apply Kd.R_drewN | apply Kd.R_drew)); exact Kd.R_mono (Kd.R_far (p := ⟨gb128, 4, none⟩) (Kd.R_far (p := ⟨gb128, 3, none⟩) (Kd.R_far (p := ⟨gb128, 2, none⟩) (Kd.R_far (p := ⟨gb128, 1, none⟩) (Kd.R_far (p := ⟨gb128, 0, none⟩) (Kd.R_types HO_4.out BK128.out (by decide)) (fun _ hk => hk.2) (.int .i64 ((rd_T56 ((rd_T51 l0 x5_1).f1) x7_3).f0))) (fun _ hk => hk.2) (.int .i64 ((rd_T56 ((rd_T51 l0 x5_1).f1) x7_3).f1))) (fun _ hk => hk.2) (.int .i64 ((rd_T56 ((rd_T51 l0 x5_1).f1) x7_3).f2))) (fun _ hk => hk.2) (.int .i64 ((rd_T56 ((rd_T51 l0 x5_1).f1) x7_3).f3))) (fun _ hk => hk.2) (.int .i64 ((rd_T56 ((rd_T51 l0 x5_1).f1) x7_3).f4))) (fun _ hk => trivial)⟩, ⟨by (with_reducible repeat (first | refine blk_drewN ?_ _ | refine blk_drew ?_ | refine blk_alloc ?_ _)); refine blk_far ?_ NB119_128.out _; (with_reducible repeat (first | refine blk_drewN ?_ _ | refine blk_drew ?_ | refine blk_alloc ?_ _)); refine blk_far ?_ NB119_128.out _; (with_reducible repeat (first | refine blk_drewN ?_ _ | refine blk_drew ?_ | refine blk_alloc ?_ _)); refine blk_far ?_ NB119_128.out _; (with_reducible repeat (first | refine blk_drewN ?_ _ | refine blk_drew ?_ | refine blk_alloc ?_ _)); refine blk_far ?_ NB119_128.out _; (with_reducible repeat (first | refine blk_drewN ?_ _ | refine blk_drew ?_ | refine blk_alloc ?_ _)); refine blk_far ?_ NB119_128.out _; (with_reducible repeat (first | refine blk_drewN ?_ _ | refine blk_drew ?_ | refine blk_alloc ?_ _)); exact BK119.out⟩, ⟨by (with_reducible repeat (first | refine blk_drewN ?_ _ | refine blk_drew ?_ | refine blk_alloc ?_ _)); refine blk_put (cs := #[.int .i64 ((rd_T56 ((rd_T51 l0 x5_1).f1) x7_3).f0), .int .i64 ((rd_T56 ((rd_T51 l0 x5_1).f1) x7_3).f1), .int .i64 ((rd_T56 ((rd_T51 l0 x5_1).f1) x7_3).f2), .int .i64 ((rd_T56 ((rd_T51 l0 x5_1).f1) x7_3).f3), .int .i64 0]) ?_ 4 _ rfl; (with_reducible repeat (first | refine blk_drewN ?_ _ | refine blk_drew ?_ | refine blk_alloc ?_ _)); refine blk_put (cs := #[.int .i64 ((rd_T56 ((rd_T51 l0 x5_1).f1) x7_3).f0), .int .i64 ((rd_T56 ((rd_T51 l0 x5_1).f1) x7_3).f1), .int .i64 ((rd_T56 ((rd_T51 l0 x5_1).f1) x7_3).f2), .int .i64 0, .int .i64 0]) ?_ 3 _ rfl; (with_reducible repeat (first | refine blk_drewN ?_ _ | refine blk_drew ?_ | refine blk_alloc ?_ _)); refine blk_put (cs := #[.int .i64 ((rd_T56 ((rd_T51 l0 x5_1).f1) x7_3).f0), .int .i64 ((rd_T56 ((rd_T51 l0 x5_1).f1) x7_3).f1), .int .i64 0, .int .i64 0, .int .i64 0]) ?_ 2 _ rfl; (with_reducible repeat (first | refine blk_drewN ?_ _ | refine blk_drew ?_ | refine blk_alloc ?_ _)); refine blk_put (cs := #[.int .i64 ((rd_T56 ((rd_T51 l0 x5_1).f1) x7_3).f0), .int .i64 0, .int .i64 0, .int .i64 0, .int .i64 0]) ?_ 1 _ rfl; (with_reducible repeat (first | refine blk_drewN ?_ _ | refine blk_drew ?_ | refine blk_alloc ?_ _)); refine blk_put (cs := #[.int .i64 0, .int .i64 0, .int .i64 0, .int .i64 0, .int .i64 0]) ?_ 0 _ rfl; (with_reducible repeat (first | refine blk_drewN ?_ _ | refine blk_drew ?_ | refine blk_alloc ?_ _)); exact BK128.out⟩, ⟨by repeat (first | (with_reducible first | exact HB.out | apply below_alloc | apply pw_below_drewN | apply below_drew1 | refine below_set ?_ GE119.out | refine below_set ?_ GE128.out) | exact HB.out)⟩⟩
                            case rest =>
                              clear HC23
                              try clear c1
                              try clear p1
                              try clear q1
                              try clear hx1
                              try clear c2
                              try clear c2b0
                              try clear c2b1
                              try clear p2
                              try clear c3
                              try clear c4
                              try clear c5
                              try clear c5b0
                              try clear c6
                              try clear c6b0
                              try clear c11
                              try clear p11
                              try clear q11
                              try clear hx11
                              try clear c12
                              try clear p12
                              try clear q12
                              try clear hx12
                              try clear c14
                              try clear c15
                              try clear c21
                              try clear c21b0
                              try clear c22
                              try clear c22b0
                              try clear c26
                              try clear c29
                              try clear c31
                              try clear c33
                              try clear c35
                              try clear c36
                              try clear c36b0
                              try clear c37
                              try clear c39
                              try clear c41
                              try clear c43
                              try clear c45
                              try clear c47
                              try clear hcz12_0
                              try clear hcz12_1
                              try clear hcz13_0
                              try clear hcz13_1
                              try clear hcz16_0
                              try clear hcz16_1
                              try clear hcz24_0
                              try clear hcz24_1
                              try clear hcz27_0
                              try clear hcz27_1
                              try clear hcz27_2
                              try clear hcz27_3
                              try clear hcz27_4
                              try clear hcz38_0
                              try clear hcz38_1
                              try clear hcz38_2
                              try clear hcz38_3
                              try clear hcz38_4
                              try clear hcz40_0
                              try clear hcz40_1
                              try clear hcz40_2
                              try clear hcz40_3
                              try clear hcz40_4
                              try clear hcz42_0
                              try clear hcz42_1
                              try clear hcz42_2
                              try clear hcz42_3
                              try clear hcz42_4
                              try clear hcz44_0
                              try clear hcz44_1
                              try clear hcz44_2
                              try clear hcz44_3
                              try clear hcz44_4
                              try clear hcz46_0
                              try clear hcz46_1
                              try clear hcz46_2
                              try clear hcz46_3
                              try clear hcz46_4
                              try clear hcz48_0
                              try clear hcz48_1
                              try clear hcz48_2
                              try clear hcz48_3
                              try clear hcz48_4
                              try clear hcz9_0
                              try clear hcz9_1
                              try clear hfz12_0
                              try clear hfz12_1
                              try clear hfz13_0
                              try clear hfz13_1
                              try clear hfz16_0
                              try clear hfz16_1
                              try clear hfz24_0
                              try clear hfz24_1
                              try clear hfz27_0
                              try clear hfz27_1
                              try clear hfz27_2
                              try clear hfz27_3
                              try clear hfz27_4
                              try clear hfz38_0
                              try clear hfz38_1
                              try clear hfz38_2
                              try clear hfz38_3
                              try clear hfz38_4
                              try clear hfz40_0
                              try clear hfz40_1
                              try clear hfz40_2
                              try clear hfz40_3
                              try clear hfz40_4
                              try clear hfz42_0
                              try clear hfz42_1
                              try clear hfz42_2
                              try clear hfz42_3
                              try clear hfz42_4
                              try clear hfz44_0
                              try clear hfz44_1
                              try clear hfz44_2
                              try clear hfz44_3
                              try clear hfz44_4
                              try clear hfz46_0
                              try clear hfz46_1
                              try clear hfz46_2
                              try clear hfz46_3
                              try clear hfz46_4
                              try clear hfz48_0
                              try clear hfz48_1
                              try clear hfz48_2
                              try clear hfz48_3
                              try clear hfz48_4
                              try clear hfz9_0
                              try clear hfz9_1
                              try clear hx118_0
                              try clear hx118_1
                              try clear hx127_0
                              try clear hx127_1
                              try clear hx127_2
                              try clear hx127_3
                              try clear hx127_4
                              try clear p1
                              try clear p11
                              try clear p118
                              try clear p127
                              try clear p2
                              try clear q1
                              try clear q11
                              try clear q118
                              try clear q127
                              obtain ⟨kq, x90_22, rfl, HA, HJ22, HO_4, BK119, BK128, HB⟩ := hcut
                              cases kq with
                              | zero => exact absurd HA.out (by simp [haymowref02_Write.j3])
                              | succ kj22 =>
                                have H := HA.out
                                clear HA
                                simp only [haymowref02_Write.j3] at H
                                by_cases c49 : x90_22 = true
                                · subst c49
                                  have H1 : (some (([] : List Int), false)) = some (r1, r2) := by rw [if_pos rfl] at H; exact H
                                  clear H
                                  have H := H1
                                  clear H1
                                  simp only [Option.some.injEq, Prod.mk.injEq] at H
                                  obtain ⟨rfl, rfl⟩ := H
                                  go_wp2
                                  go_ret2
                                  exact ⟨_, by first | rfl | (simp [errW_none, errW_some] <;> rfl) | (simp [*, errW_none, errW_some] <;> rfl), by first | exact Kd.R_nil _ _ _ _ _ | exact Kd.N_nil _ _ _ _ _ | exact Kd.V_nil _ _ _ _ _ | exact Kd.Q_nil _ _ _ _ _ | exact Kd.S_nil _ _ _ _ _, by repeat (first | (with_reducible first | exact HB.out | apply below_alloc | apply pw_below_drewN | apply below_drew1 | refine below_set ?_ GE119.out | refine below_set ?_ GE128.out) | exact HB.out)⟩
                                · replace c49 := Bool.eq_false_iff.mpr c49
                                  subst c49
                                  have H1 : (if ((rd_T56 ((rd_T51 l0 x5_1).f1) x7_3).f4) < 0 then ((some (([(((rd_T56 ((rd_T51 l0 x5_1).f1) x7_3).f0)) % 256, (((rd_T56 ((rd_T51 l0 x5_1).f1) x7_3).f1)) % 256, (((rd_T56 ((rd_T51 l0 x5_1).f1) x7_3).f2)) % 256, (((rd_T56 ((rd_T51 l0 x5_1).f1) x7_3).f3)) % 256, (Int.tmod (wrap64 (((rd_T56 ((rd_T51 l0 x5_1).f1) x7_3).f4) + 4294967296)) 256) % 256, (Int.tmod (wrap64 (Int.tdiv (wrap64 (((rd_T56 ((rd_T51 l0 x5_1).f1) x7_3).f4) + 4294967296)) 256)) 256) % 256, (Int.tmod (wrap64 (Int.tdiv (wrap64 (((rd_T56 ((rd_T51 l0 x5_1).f1) x7_3).f4) + 4294967296)) 65536)) 256) % 256, (wrap64 (Int.tdiv (wrap64 (((rd_T56 ((rd_T51 l0 x5_1).f1) x7_3).f4) + 4294967296)) 16777216)) % 256] : List Int) : List Int)).bind fun y133 => (if x4_3.length + y133.length < 140737488355328 then (haymowref02_Write.l1 kj22 l0 (x4_3 ++ y133) x5_1 (wrap64 (x7_3 + 1)) ((rd_T51 l0 x5_1).f0) ((rd_T51 l0 x5_1).f1)) else (none))) else ((some (([(((rd_T56 ((rd_T51 l0 x5_1).f1) x7_3).f0)) % 256, (((rd_T56 ((rd_T51 l0 x5_1).f1) x7_3).f1)) % 256, (((rd_T56 ((rd_T51 l0 x5_1).f1) x7_3).f2)) % 256, (((rd_T56 ((rd_T51 l0 x5_1).f1) x7_3).f3)) % 256, (Int.tmod ((rd_T56 ((rd_T51 l0 x5_1).f1) x7_3).f4) 256) % 256, (Int.tmod (wrap64 (Int.tdiv ((rd_T56 ((rd_T51 l0 x5_1).f1) x7_3).f4) 256)) 256) % 256, (Int.tmod (wrap64 (Int.tdiv ((rd_T56 ((rd_T51 l0 x5_1).f1) x7_3).f4) 65536)) 256) % 256, (wrap64 (Int.tdiv ((rd_T56 ((rd_T51 l0 x5_1).f1) x7_3).f4) 16777216)) % 256] : List Int) : List Int)).bind fun y139 => (if x4_3.length + y139.length < 140737488355328 then (haymowref02_Write.l1 kj22 l0 (x4_3 ++ y139) x5_1 (wrap64 (x7_3 + 1)) ((rd_T51 l0 x5_1).f0) ((rd_T51 l0 x5_1).f1)) else (none)))) = some (r1, r2) := by rw [if_neg (show ¬ (false = true) by decide)] at H; exact H
                                  clear H
                                  have H := H1
                                  clear H1
                                  by_cases c50 : ((rd_T56 ((rd_T51 l0 x5_1).f1) x7_3).f4) < 0
                                  · rw [if_pos c50] at H
                                    have c50b0 : decide (((rd_T56 ((rd_T51 l0 x5_1).f1) x7_3).f4) < 0) = true := decide_eq_true c50
                                    clear c50
                                    obtain ⟨y133, hy133⟩ : ∃ y_ : List Int, y_ = (([(((rd_T56 ((rd_T51 l0 x5_1).f1) x7_3).f0)) % 256, (((rd_T56 ((rd_T51 l0 x5_1).f1) x7_3).f1)) % 256, (((rd_T56 ((rd_T51 l0 x5_1).f1) x7_3).f2)) % 256, (((rd_T56 ((rd_T51 l0 x5_1).f1) x7_3).f3)) % 256, (Int.tmod (wrap64 (((rd_T56 ((rd_T51 l0 x5_1).f1) x7_3).f4) + 4294967296)) 256) % 256, (Int.tmod (wrap64 (Int.tdiv (wrap64 (((rd_T56 ((rd_T51 l0 x5_1).f1) x7_3).f4) + 4294967296)) 256)) 256) % 256, (Int.tmod (wrap64 (Int.tdiv (wrap64 (((rd_T56 ((rd_T51 l0 x5_1).f1) x7_3).f4) + 4294967296)) 65536)) 256) % 256, (wrap64 (Int.tdiv (wrap64 (((rd_T56 ((rd_T51 l0 x5_1).f1) x7_3).f4) + 4294967296)) 16777216)) % 256] : List Int)) := ⟨_, rfl⟩
                                    replace H : (if x4_3.length + y133.length < 140737488355328 then (haymowref02_Write.l1 kj22 l0 (x4_3 ++ y133) x5_1 (wrap64 (x7_3 + 1)) ((rd_T51 l0 x5_1).f0) ((rd_T51 l0 x5_1).f1)) else (none)) = some (r1, r2) := by first | (rw [hy133]; with_reducible exact H) | (have H2_ := (Option.bind_some _ _).symm.trans H; rw [hy133]; with_reducible exact H2_) | (have H2_ := (Option.bind_some _ _).symm.trans H; with_reducible exact H2_) | with_reducible exact H | (rw [hy133]; exact H) | exact H
                                    have Ny133 := Aside0.mk hy133
                                    clear hy133
                                    by_cases c51 : x4_3.length + y133.length < 140737488355328
                                    · rw [if_pos c51] at H
                                      have LMc51 := Aside0.mk c51
                                      clear c51
                                      obtain ⟨y136, hy136⟩ : ∃ y_ : List Int, y_ = (x4_3 ++ y133) := ⟨_, rfl⟩
                                      replace H : (haymowref02_Write.l1 kj22 l0 y136 x5_1 (wrap64 (x7_3 + 1)) ((rd_T51 l0 x5_1).f0) ((rd_T51 l0 x5_1).f1)) = some (r1, r2) := by first | (rw [hy136]; with_reducible exact H) | (have H2_ := (Option.bind_some _ _).symm.trans H; rw [hy136]; with_reducible exact H2_) | (have H2_ := (Option.bind_some _ _).symm.trans H; with_reducible exact H2_) | with_reducible exact H | (rw [hy136]; exact H) | exact H
                                      have Ny136 := Aside0.mk hy136
                                      clear hy136
                                      have H' := Aside0.mk H
                                      clear H
                                      have hnb52 := NB128_119.out
                                      have hnc52 := NB119_128.out
                                      have hcz53_0 : wc.cell? ⟨gb128, 0, none⟩ = some (.int .i64 ((rd_T56 ((rd_T51 l0 x5_1).f1) x7_3).f0)) := (blk_cell BK128.out 0).trans rfl
                                      have hcz53_1 : wc.cell? ⟨gb128, 1, none⟩ = some (.int .i64 ((rd_T56 ((rd_T51 l0 x5_1).f1) x7_3).f1)) := (blk_cell BK128.out 1).trans rfl
                                      have hcz53_2 : wc.cell? ⟨gb128, 2, none⟩ = some (.int .i64 ((rd_T56 ((rd_T51 l0 x5_1).f1) x7_3).f2)) := (blk_cell BK128.out 2).trans rfl
                                      have hcz53_3 : wc.cell? ⟨gb128, 3, none⟩ = some (.int .i64 ((rd_T56 ((rd_T51 l0 x5_1).f1) x7_3).f3)) := (blk_cell BK128.out 3).trans rfl
                                      have hcz53_4 : wc.cell? ⟨gb128, 4, none⟩ = some (.int .i64 ((rd_T56 ((rd_T51 l0 x5_1).f1) x7_3).f4)) := (blk_cell BK128.out 4).trans rfl
                                      have hfz53_0 := blk_frozen BK128.out 0
                                      have hfz53_1 := blk_frozen BK128.out 1
                                      have hfz53_2 := blk_frozen BK128.out 2
                                      have hfz53_3 := blk_frozen BK128.out 3
                                      have hfz53_4 := blk_frozen BK128.out 4
                                      go_wp2_with (first | ((with_reducible refine gate_dst (N := 124) rfl ?_); (try (refine gate_guard (by rfl) ?_; dsimp only)); refine Kd.R_lit (Kd.int .u8) _ 5 ?hg (N := 124) ?hd (xs := ([(((rd_T56 ((rd_T51 l0 x5_1).f1) x7_3).f0)) % 256, (((rd_T56 ((rd_T51 l0 x5_1).f1) x7_3).f1)) % 256, (((rd_T56 ((rd_T51 l0 x5_1).f1) x7_3).f2)) % 256, (((rd_T56 ((rd_T51 l0 x5_1).f1) x7_3).f3)) % 256, (Int.tmod (wrap64 (((rd_T56 ((rd_T51 l0 x5_1).f1) x7_3).f4) + 4294967296)) 256) % 256, (Int.tmod (wrap64 (Int.tdiv (wrap64 (((rd_T56 ((rd_T51 l0 x5_1).f1) x7_3).f4) + 4294967296)) 256)) 256) % 256, (Int.tmod (wrap64 (Int.tdiv (wrap64 (((rd_T56 ((rd_T51 l0 x5_1).f1) x7_3).f4) + 4294967296)) 65536)) 256) % 256, (wrap64 (Int.tdiv (wrap64 (((rd_T56 ((rd_T51 l0 x5_1).f1) x7_3).f4) + 4294967296)) 16777216)) % 256] : List Int)) (inner := [.int .u8 ((((rd_T56 ((rd_T51 l0 x5_1).f1) x7_3).f0)) % 256), .int .u8 ((((rd_T56 ((rd_T51 l0 x5_1).f1) x7_3).f1)) % 256), .int .u8 ((((rd_T56 ((rd_T51 l0 x5_1).f1) x7_3).f2)) % 256), .int .u8 ((((rd_T56 ((rd_T51 l0 x5_1).f1) x7_3).f3)) % 256), .int .u8 ((Int.tmod (wrap64 (((rd_T56 ((rd_T51 l0 x5_1).f1) x7_3).f4) + 4294967296)) 256) % 256), .int .u8 ((Int.tmod (wrap64 (Int.tdiv (wrap64 (((rd_T56 ((rd_T51 l0 x5_1).f1) x7_3).f4) + 4294967296)) 256)) 256) % 256), .int .u8 ((Int.tmod (wrap64 (Int.tdiv (wrap64 (((rd_T56 ((rd_T51 l0 x5_1).f1) x7_3).f4) + 4294967296)) 65536)) 256) % 256), .int .u8 ((wrap64 (Int.tdiv (wrap64 (((rd_T56 ((rd_T51 l0 x5_1).f1) x7_3).f4) + 4294967296)) 16777216)) % 256)]) (ok := fun _ => True) (okp := fun _ => True) ?hr ?hp (fun _ hk => hk) trivial (Below.refl _ _) (Nat.le_refl _) (by simp) ?_; (case hd => rfl); (case hg => rfl); (case hr => first | (go_simp; done) | (go_simp; rfl)); (case hp => exact (Reps.one (show Kd.M (Kd.int .u8) _ _ _ ((((rd_T56 ((rd_T51 l0 x5_1).f1) x7_3).f0)) % 256) [.int .u8 ((((rd_T56 ((rd_T51 l0 x5_1).f1) x7_3).f0)) % 256)] from rfl) (Reps.one (show Kd.M (Kd.int .u8) _ _ _ ((((rd_T56 ((rd_T51 l0 x5_1).f1) x7_3).f1)) % 256) [.int .u8 ((((rd_T56 ((rd_T51 l0 x5_1).f1) x7_3).f1)) % 256)] from rfl) (Reps.one (show Kd.M (Kd.int .u8) _ _ _ ((((rd_T56 ((rd_T51 l0 x5_1).f1) x7_3).f2)) % 256) [.int .u8 ((((rd_T56 ((rd_T51 l0 x5_1).f1) x7_3).f2)) % 256)] from rfl) (Reps.one (show Kd.M (Kd.int .u8) _ _ _ ((((rd_T56 ((rd_T51 l0 x5_1).f1) x7_3).f3)) % 256) [.int .u8 ((((rd_T56 ((rd_T51 l0 x5_1).f1) x7_3).f3)) % 256)] from rfl) (Reps.one (show Kd.M (Kd.int .u8) _ _ _ ((Int.tmod (wrap64 (((rd_T56 ((rd_T51 l0 x5_1).f1) x7_3).f4) + 4294967296)) 256) % 256) [.int .u8 ((Int.tmod (wrap64 (((rd_T56 ((rd_T51 l0 x5_1).f1) x7_3).f4) + 4294967296)) 256) % 256)] from rfl) (Reps.one (show Kd.M (Kd.int .u8) _ _ _ ((Int.tmod (wrap64 (Int.tdiv (wrap64 (((rd_T56 ((rd_T51 l0 x5_1).f1) x7_3).f4) + 4294967296)) 256)) 256) % 256) [.int .u8 ((Int.tmod (wrap64 (Int.tdiv (wrap64 (((rd_T56 ((rd_T51 l0 x5_1).f1) x7_3).f4) + 4294967296)) 256)) 256) % 256)] from rfl) (Reps.one (show Kd.M (Kd.int .u8) _ _ _ ((Int.tmod (wrap64 (Int.tdiv (wrap64 (((rd_T56 ((rd_T51 l0 x5_1).f1) x7_3).f4) + 4294967296)) 65536)) 256) % 256) [.int .u8 ((Int.tmod (wrap64 (Int.tdiv (wrap64 (((rd_T56 ((rd_T51 l0 x5_1).f1) x7_3).f4) + 4294967296)) 65536)) 256) % 256)] from rfl) (Reps.one (show Kd.M (Kd.int .u8) _ _ _ ((wrap64 (Int.tdiv (wrap64 (((rd_T56 ((rd_T51 l0 x5_1).f1) x7_3).f4) + 4294967296)) 16777216)) % 256) [.int .u8 ((wrap64 (Int.tdiv (wrap64 (((rd_T56 ((rd_T51 l0 x5_1).f1) x7_3).f4) + 4294967296)) 16777216)) % 256)] from rfl) (Reps.none _ _)))))))))); intro v134 w54 ho55 hb hg_ hnew_; clear hg_ hnew_; (first | rw [← Ny133.out] at ho55 | (simp only [Int.reduceToNat] at ho55; rw [← Ny133.out] at ho55)); have n0_ := Aside0.mk (Kd.R_elder' (by (with_reducible repeat (first | apply Kd.R_alloc | apply Kd.R_drewN | apply Kd.R_drew)); exact HO_4.out) (Kd.R_base ho55) hb); have n1_ := Aside0.mk (Kd.R_lower (Kd.R_new' ho55 (Kd.R_lt (by (with_reducible repeat (first | apply Kd.R_alloc | apply Kd.R_drewN | apply Kd.R_drew)); exact HO_4.out))) (below_size (by repeat (first | (with_reducible first | exact HB.out | apply below_alloc | apply pw_below_drewN | apply below_drew1 | refine below_set ?_ GE119.out | refine below_set ?_ GE128.out) | exact HB.out)))); have n2_ := Aside0.mk (blk_below (g := gb119) (o := .cells #[.int .i64 ((rd_T51 l0 x5_1).f0), .slice (some ad127) ((rd_T51 l0 x5_1).f1).length c118_1] 51 (0, 0)) (by (with_reducible repeat (first | refine blk_drewN ?_ _ | refine blk_drew ?_ | refine blk_alloc ?_ _)); exact BK119.out) hb); have n3_ := Aside0.mk (blk_below (g := gb128) (o := .cells #[.int .i64 ((rd_T56 ((rd_T51 l0 x5_1).f1) x7_3).f0), .int .i64 ((rd_T56 ((rd_T51 l0 x5_1).f1) x7_3).f1), .int .i64 ((rd_T56 ((rd_T51 l0 x5_1).f1) x7_3).f2), .int .i64 ((rd_T56 ((rd_T51 l0 x5_1).f1) x7_3).f3), .int .i64 ((rd_T56 ((rd_T51 l0 x5_1).f1) x7_3).f4)] 56 (0, 0)) (by (with_reducible repeat (first | refine blk_drewN ?_ _ | refine blk_drew ?_ | refine blk_alloc ?_ _)); exact BK128.out) hb); have n4_ := Aside0.mk (below_step (by repeat (first | (with_reducible first | exact HB.out | apply below_alloc | apply pw_below_drewN | apply below_drew1 | refine below_set ?_ GE119.out | refine below_set ?_ GE128.out) | exact HB.out)) hb); clear HO_4; clear BK119; clear BK128; clear HB; have HO_4 := n0_; have HO135 := n1_; have BK119 := n2_; have BK128 := n3_; have HB := n4_; clear n0_ n1_ n2_ n3_ n4_; clear hb ho55; obtain ⟨Ao57, co57, eo57⟩ := Kd.R_slice HO135.out; subst eo57) | ((with_reducible refine gate_builtin (b := .append) (xs := #[.tmp 97, .tmp 124]) rfl ?_); (try (refine gate_guard (by rfl) ?_; dsimp only)); at_builtin; refine Kd.R_append_rows (Kd.int .u8) (w0 := w) w.heap.size rfl (.tmp 97) (.tmp 124) 24 5 (.int .u8 0) 1 rfl Try.underlying24 info5 rfl (by decide) (by omega) u4 x4_3 y133 _ _ _ (fun k_ => some k_ ≠ (.slice Ao57 y133.length co57 : Value).ownBlock) (fun _ => False) rfl rfl ?aO ?aR (fun _ _ h => h) (fun _ h => h.elim) ?aF ?aB ?aS ?aL ?_; (case aR => repeat (first | exact (Kd.R_reads' HO135.out).2.2 | (with_reducible refine Kd.C_alloc ?_ _) | (with_reducible refine Kd.C_drewN ?_ _) | (with_reducible refine Kd.C_drew ?_))); (case aB => exact (by repeat (first | (with_reducible first | exact HB.out | apply below_alloc | apply pw_below_drewN | apply below_drew1 | refine below_set ?_ GE119.out | refine below_set ?_ GE128.out) | exact HB.out))); (case aF => exact (fun k_ hk => Kd.fresh' (Kd.R_lt (by (with_reducible repeat (first | apply Kd.R_alloc | apply Kd.R_drewN | apply Kd.R_drew)); exact HO135.out)) k_ hk)); (case aO => exact (by (with_reducible repeat (first | apply Kd.R_alloc | apply Kd.R_drewN | apply Kd.R_drew)); exact Kd.R_mono HO_4.out (fun _ hk => hk.2))); (case aS => exact (below_size (by repeat (first | (with_reducible first | exact HB.out | apply below_alloc | apply pw_below_drewN | apply below_drew1 | refine below_set ?_ GE119.out | refine below_set ?_ GE128.out) | exact HB.out)))); (case aL => have := LMc51.out; omega); intro v137 w56 ho hb hg hat; rw [← Ny136.out] at ho; have n0_ := Aside0.mk (blk_grown (g := gb119) (o := .cells #[.int .i64 ((rd_T51 l0 x5_1).f0), .slice (some ad127) ((rd_T51 l0 x5_1).f1).length c118_1] 51 (0, 0)) (by (with_reducible repeat (first | refine blk_drewN ?_ _ | refine blk_drew ?_ | refine blk_alloc ?_ _)); exact BK119.out) hg (Kd.R_ne HO_4.out BK119.out (by decide))); have n1_ := Aside0.mk (blk_grown (g := gb128) (o := .cells #[.int .i64 ((rd_T56 ((rd_T51 l0 x5_1).f1) x7_3).f0), .int .i64 ((rd_T56 ((rd_T51 l0 x5_1).f1) x7_3).f1), .int .i64 ((rd_T56 ((rd_T51 l0 x5_1).f1) x7_3).f2), .int .i64 ((rd_T56 ((rd_T51 l0 x5_1).f1) x7_3).f3), .int .i64 ((rd_T56 ((rd_T51 l0 x5_1).f1) x7_3).f4)] 56 (0, 0)) (by (with_reducible repeat (first | refine blk_drewN ?_ _ | refine blk_drew ?_ | refine blk_alloc ?_ _)); exact BK128.out) hg (Kd.R_ne HO_4.out BK128.out (by decide))); have n2_ := Aside0.mk (Kd.R_after (ok := (fun _ => True)) (by (with_reducible repeat (first | apply Kd.R_alloc | apply Kd.R_drewN | apply Kd.R_drew)); exact HO135.out) hg hat); have n3_ := Aside0.mk (hb); have n4_ := Aside0.mk (ho); clear BK119; clear BK128; clear HO135; clear HB; clear HO_4; have BK119 := n0_; have BK128 := n1_; have HO135 := n2_; have HB := n3_; have HO138 := n4_; clear n0_ n1_ n2_ n3_ n4_; clear ho hb hg hat))
                                      go_roundg kj22
                                      case measure => have := HK1.out; have := HJ6.out; have := HK3.out; have := HJ22.out; omega
                                      case rel => exact ⟨(y136), (wrap64 (x7_3 + 1)), (by first | rfl | (simp; done) | (simp [*]; done)), H', ⟨by have := HK1.out; have := HJ6.out; have := HK3.out; have := HJ22.out; omega⟩, ⟨by (with_reducible repeat (first | apply Kd.R_alloc | apply Kd.R_drewN | apply Kd.R_drew)); exact Kd.R_mono HO138.out (fun _ hk => trivial)⟩, ⟨by (with_reducible repeat (first | refine blk_drewN ?_ _ | refine blk_drew ?_ | refine blk_alloc ?_ _)); exact BK119.out⟩, ⟨by repeat (first | (with_reducible first | exact HB.out | apply below_alloc | apply pw_below_drewN | apply below_drew1 | refine below_set ?_ GE119.out | refine below_set ?_ GE128.out) | exact HB.out)⟩⟩
                                    · rw [if_neg c51] at H
                                      exact absurd H (by simp)
                                  · rw [if_neg c50] at H
                                    have c50b0 : decide (((rd_T56 ((rd_T51 l0 x5_1).f1) x7_3).f4) < 0) = false := decide_eq_false c50
                                    clear c50
                                    obtain ⟨y139, hy139⟩ : ∃ y_ : List Int, y_ = (([(((rd_T56 ((rd_T51 l0 x5_1).f1) x7_3).f0)) % 256, (((rd_T56 ((rd_T51 l0 x5_1).f1) x7_3).f1)) % 256, (((rd_T56 ((rd_T51 l0 x5_1).f1) x7_3).f2)) % 256, (((rd_T56 ((rd_T51 l0 x5_1).f1) x7_3).f3)) % 256, (Int.tmod ((rd_T56 ((rd_T51 l0 x5_1).f1) x7_3).f4) 256) % 256, (Int.tmod (wrap64 (Int.tdiv ((rd_T56 ((rd_T51 l0 x5_1).f1) x7_3).f4) 256)) 256) % 256, (Int.tmod (wrap64 (Int.tdiv ((rd_T56 ((rd_T51 l0 x5_1).f1) x7_3).f4) 65536)) 256) % 256, (wrap64 (Int.tdiv ((rd_T56 ((rd_T51 l0 x5_1).f1) x7_3).f4) 16777216)) % 256] : List Int)) := ⟨_, rfl⟩
                                    replace H : (if x4_3.length + y139.length < 140737488355328 then (haymowref02_Write.l1 kj22 l0 (x4_3 ++ y139) x5_1 (wrap64 (x7_3 + 1)) ((rd_T51 l0 x5_1).f0) ((rd_T51 l0 x5_1).f1)) else (none)) = some (r1, r2) := by first | (rw [hy139]; with_reducible exact H) | (have H2_ := (Option.bind_some _ _).symm.trans H; rw [hy139]; with_reducible exact H2_) | (have H2_ := (Option.bind_some _ _).symm.trans H; with_reducible exact H2_) | with_reducible exact H | (rw [hy139]; exact H) | exact H
                                    have Ny139 := Aside0.mk hy139
                                    clear hy139
                                    by_cases c58 : x4_3.length + y139.length < 140737488355328
                                    · rw [if_pos c58] at H
                                      have LMc58 := Aside0.mk c58
                                      clear c58
                                      obtain ⟨y142, hy142⟩ : ∃ y_ : List Int, y_ = (x4_3 ++ y139) := ⟨_, rfl⟩
                                      replace H : (haymowref02_Write.l1 kj22 l0 y142 x5_1 (wrap64 (x7_3 + 1)) ((rd_T51 l0 x5_1).f0) ((rd_T51 l0 x5_1).f1)) = some (r1, r2) := by first | (rw [hy142]; with_reducible exact H) | (have H2_ := (Option.bind_some _ _).symm.trans H; rw [hy142]; with_reducible exact H2_) | (have H2_ := (Option.bind_some _ _).symm.trans H; with_reducible exact H2_) | with_reducible exact H | (rw [hy142]; exact H) | exact H
                                      have Ny142 := Aside0.mk hy142
                                      clear hy142
                                      have H' := Aside0.mk H
                                      clear H
                                      have hnb59 := NB128_119.out
                                      have hnc59 := NB119_128.out
                                      have hcz60_0 : wc.cell? ⟨gb128, 0, none⟩ = some (.int .i64 ((rd_T56 ((rd_T51 l0 x5_1).f1) x7_3).f0)) := (blk_cell BK128.out 0).trans rfl
                                      have hcz60_1 : wc.cell? ⟨gb128, 1, none⟩ = some (.int .i64 ((rd_T56 ((rd_T51 l0 x5_1).f1) x7_3).f1)) := (blk_cell BK128.out 1).trans rfl
                                      have hcz60_2 : wc.cell? ⟨gb128, 2, none⟩ = some (.int .i64 ((rd_T56 ((rd_T51 l0 x5_1).f1) x7_3).f2)) := (blk_cell BK128.out 2).trans rfl
                                      have hcz60_3 : wc.cell? ⟨gb128, 3, none⟩ = some (.int .i64 ((rd_T56 ((rd_T51 l0 x5_1).f1) x7_3).f3)) := (blk_cell BK128.out 3).trans rfl
                                      have hcz60_4 : wc.cell? ⟨gb128, 4, none⟩ = some (.int .i64 ((rd_T56 ((rd_T51 l0 x5_1).f1) x7_3).f4)) := (blk_cell BK128.out 4).trans rfl
                                      have hfz60_0 := blk_frozen BK128.out 0
                                      have hfz60_1 := blk_frozen BK128.out 1
                                      have hfz60_2 := blk_frozen BK128.out 2
                                      have hfz60_3 := blk_frozen BK128.out 3
                                      have hfz60_4 := blk_frozen BK128.out 4
                                      go_wp2_with (first | ((with_reducible refine gate_dst (N := 124) rfl ?_); (try (refine gate_guard (by rfl) ?_; dsimp only)); refine Kd.R_lit (Kd.int .u8) _ 5 ?hg (N := 124) ?hd (xs := ([(((rd_T56 ((rd_T51 l0 x5_1).f1) x7_3).f0)) % 256, (((rd_T56 ((rd_T51 l0 x5_1).f1) x7_3).f1)) % 256, (((rd_T56 ((rd_T51 l0 x5_1).f1) x7_3).f2)) % 256, (((rd_T56 ((rd_T51 l0 x5_1).f1) x7_3).f3)) % 256, (Int.tmod ((rd_T56 ((rd_T51 l0 x5_1).f1) x7_3).f4) 256) % 256, (Int.tmod (wrap64 (Int.tdiv ((rd_T56 ((rd_T51 l0 x5_1).f1) x7_3).f4) 256)) 256) % 256, (Int.tmod (wrap64 (Int.tdiv ((rd_T56 ((rd_T51 l0 x5_1).f1) x7_3).f4) 65536)) 256) % 256, (wrap64 (Int.tdiv ((rd_T56 ((rd_T51 l0 x5_1).f1) x7_3).f4) 16777216)) % 256] : List Int)) (inner := [.int .u8 ((((rd_T56 ((rd_T51 l0 x5_1).f1) x7_3).f0)) % 256), .int .u8 ((((rd_T56 ((rd_T51 l0 x5_1).f1) x7_3).f1)) % 256), .int .u8 ((((rd_T56 ((rd_T51 l0 x5_1).f1) x7_3).f2)) % 256), .int .u8 ((((rd_T56 ((rd_T51 l0 x5_1).f1) x7_3).f3)) % 256), .int .u8 ((Int.tmod ((rd_T56 ((rd_T51 l0 x5_1).f1) x7_3).f4) 256) % 256), .int .u8 ((Int.tmod (wrap64 (Int.tdiv ((rd_T56 ((rd_T51 l0 x5_1).f1) x7_3).f4) 256)) 256) % 256), .int .u8 ((Int.tmod (wrap64 (Int.tdiv ((rd_T56 ((rd_T51 l0 x5_1).f1) x7_3).f4) 65536)) 256) % 256), .int .u8 ((wrap64 (Int.tdiv ((rd_T56 ((rd_T51 l0 x5_1).f1) x7_3).f4) 16777216)) % 256)]) (ok := fun _ => True) (okp := fun _ => True) ?hr ?hp (fun _ hk => hk) trivial (Below.refl _ _) (Nat.le_refl _) (by simp) ?_; (case hd => rfl); (case hg => rfl); (case hr => first | (go_simp; done) | (go_simp; rfl)); (case hp => exact (Reps.one (show Kd.M (Kd.int .u8) _ _ _ ((((rd_T56 ((rd_T51 l0 x5_1).f1) x7_3).f0)) % 256) [.int .u8 ((((rd_T56 ((rd_T51 l0 x5_1).f1) x7_3).f0)) % 256)] from rfl) (Reps.one (show Kd.M (Kd.int .u8) _ _ _ ((((rd_T56 ((rd_T51 l0 x5_1).f1) x7_3).f1)) % 256) [.int .u8 ((((rd_T56 ((rd_T51 l0 x5_1).f1) x7_3).f1)) % 256)] from rfl) (Reps.one (show Kd.M (Kd.int .u8) _ _ _ ((((rd_T56 ((rd_T51 l0 x5_1).f1) x7_3).f2)) % 256) [.int .u8 ((((rd_T56 ((rd_T51 l0 x5_1).f1) x7_3).f2)) % 256)] from rfl) (Reps.one (show Kd.M (Kd.int .u8) _ _ _ ((((rd_T56 ((rd_T51 l0 x5_1).f1) x7_3).f3)) % 256) [.int .u8 ((((rd_T56 ((rd_T51 l0 x5_1).f1) x7_3).f3)) % 256)] from rfl) (Reps.one (show Kd.M (Kd.int .u8) _ _ _ ((Int.tmod ((rd_T56 ((rd_T51 l0 x5_1).f1) x7_3).f4) 256) % 256) [.int .u8 ((Int.tmod ((rd_T56 ((rd_T51 l0 x5_1).f1) x7_3).f4) 256) % 256)] from rfl) (Reps.one (show Kd.M (Kd.int .u8) _ _ _ ((Int.tmod (wrap64 (Int.tdiv ((rd_T56 ((rd_T51 l0 x5_1).f1) x7_3).f4) 256)) 256) % 256) [.int .u8 ((Int.tmod (wrap64 (Int.tdiv ((rd_T56 ((rd_T51 l0 x5_1).f1) x7_3).f4) 256)) 256) % 256)] from rfl) (Reps.one (show Kd.M (Kd.int .u8) _ _ _ ((Int.tmod (wrap64 (Int.tdiv ((rd_T56 ((rd_T51 l0 x5_1).f1) x7_3).f4) 65536)) 256) % 256) [.int .u8 ((Int.tmod (wrap64 (Int.tdiv ((rd_T56 ((rd_T51 l0 x5_1).f1) x7_3).f4) 65536)) 256) % 256)] from rfl) (Reps.one (show Kd.M (Kd.int .u8) _ _ _ ((wrap64 (Int.tdiv ((rd_T56 ((rd_T51 l0 x5_1).f1) x7_3).f4) 16777216)) % 256) [.int .u8 ((wrap64 (Int.tdiv ((rd_T56 ((rd_T51 l0 x5_1).f1) x7_3).f4) 16777216)) % 256)] from rfl) (Reps.none _ _)))))))))); intro v140 w61 ho62 hb hg_ hnew_; clear hg_ hnew_; (first | rw [← Ny139.out] at ho62 | (simp only [Int.reduceToNat] at ho62; rw [← Ny139.out] at ho62)); have n0_ := Aside0.mk (Kd.R_elder' (by (with_reducible repeat (first | apply Kd.R_alloc | apply Kd.R_drewN | apply Kd.R_drew)); exact HO_4.out) (Kd.R_base ho62) hb); have n1_ := Aside0.mk (Kd.R_lower (Kd.R_new' ho62 (Kd.R_lt (by (with_reducible repeat (first | apply Kd.R_alloc | apply Kd.R_drewN | apply Kd.R_drew)); exact HO_4.out))) (below_size (by repeat (first | (with_reducible first | exact HB.out | apply below_alloc | apply pw_below_drewN | apply below_drew1 | refine below_set ?_ GE119.out | refine below_set ?_ GE128.out) | exact HB.out)))); have n2_ := Aside0.mk (blk_below (g := gb119) (o := .cells #[.int .i64 ((rd_T51 l0 x5_1).f0), .slice (some ad127) ((rd_T51 l0 x5_1).f1).length c118_1] 51 (0, 0)) (by (with_reducible repeat (first | refine blk_drewN ?_ _ | refine blk_drew ?_ | refine blk_alloc ?_ _)); exact BK119.out) hb); have n3_ := Aside0.mk (blk_below (g := gb128) (o := .cells #[.int .i64 ((rd_T56 ((rd_T51 l0 x5_1).f1) x7_3).f0), .int .i64 ((rd_T56 ((rd_T51 l0 x5_1).f1) x7_3).f1), .int .i64 ((rd_T56 ((rd_T51 l0 x5_1).f1) x7_3).f2), .int .i64 ((rd_T56 ((rd_T51 l0 x5_1).f1) x7_3).f3), .int .i64 ((rd_T56 ((rd_T51 l0 x5_1).f1) x7_3).f4)] 56 (0, 0)) (by (with_reducible repeat (first | refine blk_drewN ?_ _ | refine blk_drew ?_ | refine blk_alloc ?_ _)); exact BK128.out) hb); have n4_ := Aside0.mk (below_step (by repeat (first | (with_reducible first | exact HB.out | apply below_alloc | apply pw_below_drewN | apply below_drew1 | refine below_set ?_ GE119.out | refine below_set ?_ GE128.out) | exact HB.out)) hb); clear HO_4; clear BK119; clear BK128; clear HB; have HO_4 := n0_; have HO141 := n1_; have BK119 := n2_; have BK128 := n3_; have HB := n4_; clear n0_ n1_ n2_ n3_ n4_; clear hb ho62; obtain ⟨Ao64, co64, eo64⟩ := Kd.R_slice HO141.out; subst eo64) | ((with_reducible refine gate_builtin (b := .append) (xs := #[.tmp 97, .tmp 124]) rfl ?_); (try (refine gate_guard (by rfl) ?_; dsimp only)); at_builtin; refine Kd.R_append_rows (Kd.int .u8) (w0 := w) w.heap.size rfl (.tmp 97) (.tmp 124) 24 5 (.int .u8 0) 1 rfl Try.underlying24 info5 rfl (by decide) (by omega) u4 x4_3 y139 _ _ _ (fun k_ => some k_ ≠ (.slice Ao64 y139.length co64 : Value).ownBlock) (fun _ => False) rfl rfl ?aO ?aR (fun _ _ h => h) (fun _ h => h.elim) ?aF ?aB ?aS ?aL ?_; (case aR => repeat (first | exact (Kd.R_reads' HO141.out).2.2 | (with_reducible refine Kd.C_alloc ?_ _) | (with_reducible refine Kd.C_drewN ?_ _) | (with_reducible refine Kd.C_drew ?_))); (case aB => exact (by repeat (first | (with_reducible first | exact HB.out | apply below_alloc | apply pw_below_drewN | apply below_drew1 | refine below_set ?_ GE119.out | refine below_set ?_ GE128.out) | exact HB.out))); (case aF => exact (fun k_ hk => Kd.fresh' (Kd.R_lt (by (with_reducible repeat (first | apply Kd.R_alloc | apply Kd.R_drewN | apply Kd.R_drew)); exact HO141.out)) k_ hk)); (case aO => exact (by (with_reducible repeat (first | apply Kd.R_alloc | apply Kd.R_drewN | apply Kd.R_drew)); exact Kd.R_mono HO_4.out (fun _ hk => hk.2))); (case aS => exact (below_size (by repeat (first | (with_reducible first | exact HB.out | apply below_alloc | apply pw_below_drewN | apply below_drew1 | refine below_set ?_ GE119.out | refine below_set ?_ GE128.out) | exact HB.out)))); (case aL => have := LMc58.out; omega); intro v143 w63 ho hb hg hat; rw [← Ny142.out] at ho; have n0_ := Aside0.mk (blk_grown (g := gb119) (o := .cells #[.int .i64 ((rd_T51 l0 x5_1).f0), .slice (some ad127) ((rd_T51 l0 x5_1).f1).length c118_1] 51 (0, 0)) (by (with_reducible repeat (first | refine blk_drewN ?_ _ | refine blk_drew ?_ | refine blk_alloc ?_ _)); exact BK119.out) hg (Kd.R_ne HO_4.out BK119.out (by decide))); have n1_ := Aside0.mk (blk_grown (g := gb128) (o := .cells #[.int .i64 ((rd_T56 ((rd_T51 l0 x5_1).f1) x7_3).f0), .int .i64 ((rd_T56 ((rd_T51 l0 x5_1).f1) x7_3).f1), .int .i64 ((rd_T56 ((rd_T51 l0 x5_1).f1) x7_3).f2), .int .i64 ((rd_T56 ((rd_T51 l0 x5_1).f1) x7_3).f3), .int .i64 ((rd_T56 ((rd_T51 l0 x5_1).f1) x7_3).f4)] 56 (0, 0)) (by (with_reducible repeat (first | refine blk_drewN ?_ _ | refine blk_drew ?_ | refine blk_alloc ?_ _)); exact BK128.out) hg (Kd.R_ne HO_4.out BK128.out (by decide))); have n2_ := Aside0.mk (Kd.R_after (ok := (fun _ => True)) (by (with_reducible repeat (first | apply Kd.R_alloc | apply Kd.R_drewN | apply Kd.R_drew)); exact HO141.out) hg hat); have n3_ := Aside0.mk (hb); have n4_ := Aside0.mk (ho); clear BK119; clear BK128; clear HO141; clear HB; clear HO_4; have BK119 := n0_; have BK128 := n1_; have HO141 := n2_; have HB := n3_; have HO144 := n4_; clear n0_ n1_ n2_ n3_ n4_; clear ho hb hg hat))
                                      go_roundg kj22
                                      case measure => have := HK1.out; have := HJ6.out; have := HK3.out; have := HJ22.out; omega
                                      case rel => exact ⟨(y142), (wrap64 (x7_3 + 1)), (by first | rfl | (simp; done) | (simp [*]; done)), H', ⟨by have := HK1.out; have := HJ6.out; have := HK3.out; have := HJ22.out; omega⟩, ⟨by (with_reducible repeat (first | apply Kd.R_alloc | apply Kd.R_drewN | apply Kd.R_drew)); exact Kd.R_mono HO144.out (fun _ hk => trivial)⟩, ⟨by (with_reducible repeat (first | refine blk_drewN ?_ _ | refine blk_drew ?_ | refine blk_alloc ?_ _)); exact BK119.out⟩, ⟨by repeat (first | (with_reducible first | exact HB.out | apply below_alloc | apply pw_below_drewN | apply below_drew1 | refine below_set ?_ GE119.out | refine below_set ?_ GE128.out) | exact HB.out)⟩⟩
                                    · rw [if_neg c58] at H
                                      exact absurd H (by simp)
                          · rw [if_neg c22] at H
                            exact absurd H (by simp)
                        · rw [if_neg c21] at H
                          have c21b0 : decide (x7_3 < (((rd_T51 l0 x5_1).f1).length : Int)) = false := decide_eq_false c21
                          clear c21
                          have H' := Aside0.mk H
                          clear H
                          have hcz65_0 : wr.cell? ⟨gb119, 0, none⟩ = some (.int .i64 ((rd_T51 l0 x5_1).f0)) := (blk_cell BK119.out 0).trans rfl
                          have hcz65_1 : wr.cell? ⟨gb119, 1, none⟩ = some (.slice A118_1 ((rd_T51 l0 x5_1).f1).length c118_1) := (blk_cell BK119.out 1).trans rfl
                          have hfz65_0 := blk_frozen BK119.out 0
                          have hfz65_1 := blk_frozen BK119.out 1
                          go_wp2
                          go_roundg k3
                          case measure => have := HK1.out; have := HJ6.out; have := HK3.out; omega
                          case rel => exact ⟨(x4_3), (wrap64 (x5_1 + 1)), (by first | rfl | (simp; done) | (simp [*]; done)), H', ⟨by have := HK1.out; have := HJ6.out; have := HK3.out; omega⟩, ⟨by (with_reducible repeat (first | apply Kd.R_alloc | apply Kd.R_drewN | apply Kd.R_drew)); exact HO_4.out⟩, ⟨by repeat (first | (with_reducible first | exact HB.out | apply below_alloc | apply pw_below_drewN | apply below_drew1 | refine below_set ?_ GE119.out) | exact HB.out)⟩⟩
                  · rw [if_neg c15] at H
                    exact absurd H (by simp)
          · rw [if_neg c6] at H
            exact absurd H (by simp)
        · rw [if_neg c5] at H
          have c5b0 : decide (x5_1 < (l0.length : Int)) = false := decide_eq_false c5
          clear c5
          simp only [Option.some.injEq, Prod.mk.injEq] at H
          obtain ⟨rfl, rfl⟩ := H
          go_wp2
          go_ret2
          exact ⟨_, by first | rfl | (simp [errW_none, errW_some] <;> rfl) | (simp [*, errW_none, errW_some] <;> rfl), by (with_reducible repeat (first | apply Kd.R_alloc | apply Kd.R_drewN | apply Kd.R_drew)); exact HO_4.out, by repeat (first | (with_reducible first | exact HB.out | apply below_alloc | apply pw_below_drewN | apply below_drew1) | exact HB.out)⟩

end Go.Proofs.Ytojnimaiggobeaa.H
