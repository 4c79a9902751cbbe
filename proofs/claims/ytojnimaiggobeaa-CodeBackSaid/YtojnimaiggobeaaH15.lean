-- made by this session's gen.py over the kit's print.py; not trusted: Lean checks it
import Derived.Test.YtojnimaiggobeaaH0
import Derived.Test.YtojnimaiggobeaaH1
import Derived.Test.YtojnimaiggobeaaH6
namespace Go.Proofs.Ytojnimaiggobeaa.H
open Go.RowKit Go.Proofs.YtojnimaiggobeaaW.PrintWords Go.Proofs.YtojnimaiggobeaaW.PrintLast Go.Proofs.YtojnimaiggobeaaW.PrintMore
attribute [local go_sem] max2_int min2_int max_two min_two max_three min_three max_four min_four   -- for this text's walks alone
set_option linter.unusedVariables false
set_option linter.unusedSimpArgs false

attribute [local go_sem high] eqA44
/-! ### haymowlaw02_told: function 16 -/
mutual
def haymowlaw02_told.l0 : Nat → List (S47) → List (S47) → Int → Option (Bool)
  | 0, _, _, _ => none
  | k + 1, x0, x5, x6 => if x6 < (x5.length : Int) then (if 0 ≤ x6 then (if x6 < (x0.length : Int) then (if ((rd_T47 x0 x6).f0) = ((rd_T47 x5 x6).f0) then (haymowlaw02_told.j1 k x0 x5 x6 ((((rd_T47 x0 x6).f1).length : Int) != (((rd_T47 x5 x6).f1).length : Int))) else (haymowlaw02_told.j1 k x0 x5 x6 true)) else (none)) else (none)) else (some true)
def haymowlaw02_told.j1 : Nat → List (S47) → List (S47) → Int → Bool → Option (Bool)
  | 0, _, _, _, _ => none
  | k + 1, x0, x5, x6, x46 => if x46 = true then (some false) else (haymowlaw02_told.l1 k x0 x5 x6 0)
def haymowlaw02_told.l1 : Nat → List (S47) → List (S47) → Int → Int → Option (Bool)
  | 0, _, _, _, _ => none
  | k + 1, x0, x5, x6, x7 => if 0 ≤ x6 then (if x6 < (x5.length : Int) then (if x7 < (((rd_T47 x5 x6).f1).length : Int) then (if x6 < (x0.length : Int) then (if 0 ≤ x7 then (if x7 < (((rd_T47 x0 x6).f1).length : Int) then (if (!(((rd_T44 ((rd_T47 x0 x6).f1) x7).f0) == ((rd_T44 ((rd_T47 x5 x6).f1) x7).f0)) || (!(((rd_T44 ((rd_T47 x0 x6).f1) x7).f1) == ((rd_T44 ((rd_T47 x5 x6).f1) x7).f1)) || (!(((rd_T44 ((rd_T47 x0 x6).f1) x7).f2) == ((rd_T44 ((rd_T47 x5 x6).f1) x7).f2)) || (!(((rd_T44 ((rd_T47 x0 x6).f1) x7).f3) == ((rd_T44 ((rd_T47 x5 x6).f1) x7).f3)) || (!(((rd_T44 ((rd_T47 x0 x6).f1) x7).f4) == ((rd_T44 ((rd_T47 x5 x6).f1) x7).f4))))))) = true then (some false) else (haymowlaw02_told.l1 k x0 x5 x6 (wrap64 (x7 + 1)))) else (none)) else (none)) else (none)) else (haymowlaw02_told.l0 k x0 x5 (wrap64 (x6 + 1)))) else (none)) else (none)
end
def haymowlaw02_told.f (k : Nat) (l0 : List (S47)) (l1 : List (S51)) : Option (Bool) := (haymowlaw02_of.f k l1).bind fun t195 => (if (l0.length : Int) = (t195.length : Int) then (haymowlaw02_told.l0 k l0 t195 0) else (some false))
theorem haymowlaw02_told.mono_l : ∀ k, (∀ y0 y1 y2, LeO (haymowlaw02_told.l0 k y0 y1 y2) (haymowlaw02_told.l0 (k + 1) y0 y1 y2)) ∧ (∀ y0 y1 y2 y3, LeO (haymowlaw02_told.j1 k y0 y1 y2 y3) (haymowlaw02_told.j1 (k + 1) y0 y1 y2 y3)) ∧ (∀ y0 y1 y2 y3, LeO (haymowlaw02_told.l1 k y0 y1 y2 y3) (haymowlaw02_told.l1 (k + 1) y0 y1 y2 y3))
  | 0 => ⟨fun _ _ _ r h => by simp [haymowlaw02_told.l0] at h, fun _ _ _ _ r h => by simp [haymowlaw02_told.j1] at h, fun _ _ _ _ r h => by simp [haymowlaw02_told.l1] at h⟩
  | k + 1 => by
    obtain ⟨ih0, ih1, ih2⟩ := haymowlaw02_told.mono_l k
    refine ⟨?_, ?_, ?_⟩
    · intro y0 y1 y2
      unfold haymowlaw02_told.l0
      repeat' first
      | (with_reducible exact ih0 _ _ _)
      | (with_reducible exact ih1 _ _ _ _)
      | (with_reducible exact ih2 _ _ _ _)
      | (with_reducible exact haymowlaw02_of.mono _ _)
      | (with_reducible exact LeO.refl _)
      | (with_reducible exact LeO.none _)
      | (with_reducible refine LeO.ite ?_ ?_)
      | (with_reducible refine LeO.bind ?_ (fun _ => ?_))
      | exact ih0 _ _ _
      | exact ih1 _ _ _ _
      | exact ih2 _ _ _ _
      | exact haymowlaw02_of.mono _ _
      | exact LeO.none _
      | refine LeO.ite ?_ ?_
      | refine LeO.bind ?_ (fun _ => ?_)
    · intro y0 y1 y2 y3
      unfold haymowlaw02_told.j1
      repeat' first
      | (with_reducible exact ih0 _ _ _)
      | (with_reducible exact ih1 _ _ _ _)
      | (with_reducible exact ih2 _ _ _ _)
      | (with_reducible exact haymowlaw02_of.mono _ _)
      | (with_reducible exact LeO.refl _)
      | (with_reducible exact LeO.none _)
      | (with_reducible refine LeO.ite ?_ ?_)
      | (with_reducible refine LeO.bind ?_ (fun _ => ?_))
      | exact ih0 _ _ _
      | exact ih1 _ _ _ _
      | exact ih2 _ _ _ _
      | exact haymowlaw02_of.mono _ _
      | exact LeO.none _
      | refine LeO.ite ?_ ?_
      | refine LeO.bind ?_ (fun _ => ?_)
    · intro y0 y1 y2 y3
      unfold haymowlaw02_told.l1
      repeat' first
      | (with_reducible exact ih0 _ _ _)
      | (with_reducible exact ih1 _ _ _ _)
      | (with_reducible exact ih2 _ _ _ _)
      | (with_reducible exact haymowlaw02_of.mono _ _)
      | (with_reducible exact LeO.refl _)
      | (with_reducible exact LeO.none _)
      | (with_reducible refine LeO.ite ?_ ?_)
      | (with_reducible refine LeO.bind ?_ (fun _ => ?_))
      | exact ih0 _ _ _
      | exact ih1 _ _ _ _
      | exact ih2 _ _ _ _
      | exact haymowlaw02_of.mono _ _
      | exact LeO.none _
      | refine LeO.ite ?_ ?_
      | refine LeO.bind ?_ (fun _ => ?_)
theorem haymowlaw02_told.mono : ∀ a0 a1 k, LeO (haymowlaw02_told.f k a0 a1) (haymowlaw02_told.f (k + 1) a0 a1) := by
  intro a0 a1 k
  obtain ⟨ih0, ih1, ih2⟩ := haymowlaw02_told.mono_l k
  unfold haymowlaw02_told.f
  repeat' first
      | (with_reducible exact ih0 _ _ _)
      | (with_reducible exact ih1 _ _ _ _)
      | (with_reducible exact ih2 _ _ _ _)
      | (with_reducible exact haymowlaw02_of.mono _ _)
      | (with_reducible exact LeO.refl _)
      | (with_reducible exact LeO.none _)
      | (with_reducible refine LeO.ite ?_ ?_)
      | (with_reducible refine LeO.bind ?_ (fun _ => ?_))
      | exact ih0 _ _ _
      | exact ih1 _ _ _ _
      | exact ih2 _ _ _ _
      | exact haymowlaw02_of.mono _ _
      | exact LeO.none _
      | refine LeO.ite ?_ ?_
      | refine LeO.bind ?_ (fun _ => ?_)
set_option maxHeartbeats 8000000 in
set_option maxRecDepth 100000 in
theorem haymowlaw02_told.calls (k : Nat) (A0 : Option Addr) (c0 : Nat) (l0 : List (S47)) (A1 : Option Addr) (c1 : Nat) (l1 : List (S51)) (r : Bool) (w : World) (hr0 : Kd.C k47 w A0 l0.length l0) (hc0 : l0.length ≤ c0) (hr1 : Kd.C k51 w A1 l1.length l1) (hc1 : l1.length ≤ c1) (h : haymowlaw02_told.f k l0 l1 = some r) :
    Calls Try.prog 16 #[.slice A0 l0.length c0, .slice A1 l1.length c1] w fun e w' => e = .returned (.bool r) ∧ Below w.heap.size w w' := by
  have hu44 := Try.underlying44
  have HR0 := Aside0.mk hr0
  have HC0 := Aside0.mk hc0
  clear hr0 hc0
  have HR1 := Aside0.mk hr1
  have HC1 := Aside0.mk hc1
  clear hr1 hc1
  have HB := Aside0.mk (Below.refl w.heap.size w)
  have H : ((haymowlaw02_of.f k l1).bind fun t195 => (if (l0.length : Int) = (t195.length : Int) then (haymowlaw02_told.l0 k l0 t195 0) else (some false))) = some r := h
  clear h
  replace H := Option.bind_eq_some_iff.mp H
  obtain ⟨t195, A30, H⟩ := H
  replace H : (if (l0.length : Int) = (t195.length : Int) then (haymowlaw02_told.l0 k l0 t195 0) else (some false)) = some r := H
  have A3 := Aside0.mk A30
  clear A30
  by_cases c4 : (l0.length : Int) = (t195.length : Int)
  · rw [if_pos c4] at H
    have c4b0 : ((l0.length : Int) == (t195.length : Int)) = true := beq_iff_eq.mpr c4
    have c4b1 : ((l0.length : Int) != (t195.length : Int)) = false := bne_eq_false_iff_eq.mpr c4
    have c4b2 : (l0.length == t195.length) = true := by first | simpa using c4 | (simp at c4 ⊢; omega)
    clear c4
    have H' := Aside0.mk H
    clear H
    go_enter Try.func16, Try.ntmps16
    go_wp2_with (first | (go_at_call 11; (with_reducible refine (haymowlaw02_of.calls k _ _ l1 t195 _ ?side1 ?side2 A3.out).mono ?_); (case side1 => repeat (first | exact HR1.out | (with_reducible refine Kd.C_alloc ?_ _) | (with_reducible refine Kd.C_drewN ?_ _) | (with_reducible refine Kd.C_drew ?_))); (case side2 => exact HC1.out); rintro e w5 ⟨v196, rfl, ho0, hb⟩; have n0_ := Aside0.mk (Kd.S_lower ho0 (below_size (by repeat (first | (with_reducible first | exact HB.out | apply below_alloc | apply pw_below_drewN | apply below_drew1) | exact HB.out)))); have n1_ := Aside0.mk (below_step (by repeat (first | (with_reducible first | exact HB.out | apply below_alloc | apply pw_below_drewN | apply below_drew1) | exact HB.out)) hb); clear HB; have HO197 := n0_; have HB := n1_; clear n0_ n1_; (try clear hb); (try clear hb2); (try clear hk); (try clear hi); (try clear ho0); obtain ⟨Ao6, co6, eo6⟩ := Kd.S_slice HO197.out; subst eo6))
    repeat (go_quiet (first | (go_at_call 11; (with_reducible refine (haymowlaw02_of.calls k _ _ l1 t195 _ ?side1 ?side2 A3.out).mono ?_); (case side1 => repeat (first | exact HR1.out | (with_reducible refine Kd.C_alloc ?_ _) | (with_reducible refine Kd.C_drewN ?_ _) | (with_reducible refine Kd.C_drew ?_))); (case side2 => exact HC1.out); rintro e w5 ⟨v196, rfl, ho0, hb⟩; have n0_ := Aside0.mk (Kd.S_lower ho0 (below_size (by repeat (first | (with_reducible first | exact HB.out | apply below_alloc | apply pw_below_drewN | apply below_drew1) | exact HB.out)))); have n1_ := Aside0.mk (below_step (by repeat (first | (with_reducible first | exact HB.out | apply below_alloc | apply pw_below_drewN | apply below_drew1) | exact HB.out)) hb); clear HB; have HO197 := n0_; have HB := n1_; clear n0_ n1_; (try clear hb); (try clear hb2); (try clear hk); (try clear hi); (try clear ho0); obtain ⟨Ao6, co6, eo6⟩ := Kd.S_slice HO197.out; subst eo6)); try go_wp2_with (first | (go_at_call 11; (with_reducible refine (haymowlaw02_of.calls k _ _ l1 t195 _ ?side1 ?side2 A3.out).mono ?_); (case side1 => repeat (first | exact HR1.out | (with_reducible refine Kd.C_alloc ?_ _) | (with_reducible refine Kd.C_drewN ?_ _) | (with_reducible refine Kd.C_drew ?_))); (case side2 => exact HC1.out); rintro e w5 ⟨v196, rfl, ho0, hb⟩; have n0_ := Aside0.mk (Kd.S_lower ho0 (below_size (by repeat (first | (with_reducible first | exact HB.out | apply below_alloc | apply pw_below_drewN | apply below_drew1) | exact HB.out)))); have n1_ := Aside0.mk (below_step (by repeat (first | (with_reducible first | exact HB.out | apply below_alloc | apply pw_below_drewN | apply below_drew1) | exact HB.out)) hb); clear HB; have HO197 := n0_; have HB := n1_; clear n0_ n1_; (try clear hb); (try clear hb2); (try clear hk); (try clear hi); (try clear ho0); obtain ⟨Ao6, co6, eo6⟩ := Kd.S_slice HO197.out; subst eo6)))
    go_loopg [6] k (fun kq v6 w' => ∃ (x6_1 : Int), v6 = .int .i64 x6_1 ∧ Aside0 (haymowlaw02_told.l0 kq l0 t195 x6_1 = some r) ∧ Aside0 (kq ≤ k) ∧ Aside0 (Kd.S k47 47 w' w.heap.size (fun _ => True) (.slice Ao6 t195.length co6) t195) ∧ Aside0 (Below w.heap.size w w'))
    case atStart => exact ⟨(0), (by first | rfl | (simp; done) | (simp [*]; done)), H', ⟨Nat.le_refl _⟩, ⟨by (with_reducible repeat (first | apply Kd.S_alloc | apply Kd.S_drewN | apply Kd.S_drew)); exact HO197.out⟩, ⟨by repeat (first | (with_reducible first | exact HB.out | apply below_alloc | apply pw_below_drewN | apply below_drew1) | exact HB.out)⟩⟩
    case round =>
      clear H'
      try clear c1
      try clear p2
      try clear c4
      try clear c4b0
      try clear c4b1
      try clear c4b2
      obtain ⟨x6_1, rfl, HA, HK1, HO_5, HB⟩ := hrel
      cases gk with
      | zero => exact absurd HA.out (by simp [haymowlaw02_told.l0])
      | succ k1 =>
        have H := HA.out
        clear HA
        simp only [haymowlaw02_told.l0] at H
        by_cases c7 : x6_1 < (t195.length : Int)
        · rw [if_pos c7] at H
          have c7b0 : decide (x6_1 < (t195.length : Int)) = true := decide_eq_true c7
          clear c7
          have HC8 := Aside0.mk H
          clear H
          go_upto_region 7 with (fail)
          repeat (go_quiet (fail); go_upto_region 7 with (fail))
          go_cut [46] (fun v46 wc => ∃ (kq : Nat) (x46_7 : Bool), v46 = .bool x46_7 ∧ Aside0 (haymowlaw02_told.j1 kq l0 t195 x6_1 x46_7 = some r) ∧ Aside0 (kq ≤ k1) ∧ Aside0 (Kd.S k47 47 wc w.heap.size (fun _ => True) (.slice Ao6 t195.length co6) t195) ∧ Aside0 (Below w.heap.size w wc))
          case first =>
            have H := HC8.out
            clear HC8
            by_cases c9 : 0 ≤ x6_1
            · rw [if_pos c9] at H
              have c9b0 : decide (0 ≤ x6_1) = true := decide_eq_true c9
              clear c9
              (first | rw [c9b0] | (simp only [i64_w, i32_w]; rw [c9b0]) | skip)
              by_cases c10 : x6_1 < (l0.length : Int)
              · rw [if_pos c10] at H
                have c10b0 : decide (x6_1 < (l0.length : Int)) = true := decide_eq_true c10
                clear c10
                by_cases c11 : ((rd_T47 l0 x6_1).f0) = ((rd_T47 t195 x6_1).f0)
                · rw [if_pos c11] at H
                  have c11b0 : (((rd_T47 l0 x6_1).f0) == ((rd_T47 t195 x6_1).f0)) = true := beq_iff_eq.mpr c11
                  have c11b1 : (((rd_T47 l0 x6_1).f0) != ((rd_T47 t195 x6_1).f0)) = false := bne_eq_false_iff_eq.mpr c11
                  clear c11
                  have H' := Aside0.mk H
                  clear H
                  have p198 : 0 ≤ (x6_1 : Int) := of_decide_eq_true (by first | (with_reducible assumption) | assumption)
                  have q198 : x6_1 < (l0.length : Int) := of_decide_eq_true (by first | (with_reducible assumption) | assumption)
                  obtain ⟨ad198, A198_1, c198_1, e198, hx198_0, hx198_1, hl198_1, hi198_1⟩ := at_T47 HR0.out x6_1 p198 q198
                  cases e198
                  replace hx198_0 := (HB.out.cell (World.block_lt_of_cell? w _ hx198_0)).trans hx198_0
                  replace hx198_1 := (HB.out.cell (World.block_lt_of_cell? w _ hx198_1)).trans hx198_1
                  have HR198_1 := Aside0.mk hi198_1
                  have HC198_1 := Aside0.mk hl198_1
                  clear hi198_1 hl198_1
                  replace p198 := eq_true p198
                  replace q198 := eq_true q198
                  have p199 : 0 ≤ (x6_1 : Int) := of_decide_eq_true (by first | (with_reducible assumption) | assumption)
                  have q199 : x6_1 < (t195.length : Int) := of_decide_eq_true (by first | (with_reducible assumption) | assumption)
                  obtain ⟨ad199, A199_1, c199_1, e199, hx199_0, hx199_1, hl199_1, hi199_1⟩ := at_T47 (Kd.S_reads' HO_5.out).2.2 x6_1 p199 q199
                  cases e199
                  obtain ⟨ce199, hce199, hMe199, hcc199⟩ := Kd.S_get HO_5.out z47 x6_1 p199 (by first | exact q199 | exact of_decide_eq_true (by first | (with_reducible assumption) | assumption) | (have e_ := (Kd.S_reads' HO_5.out).1; omega))
                  obtain ⟨ve199_1, rfl, ge199_1⟩ := k47_openM hMe199
                  have hv199_1 := hcc199 1 _ rfl
                  rw [add_field _ _ 1 (by omega)] at hv199_1
                  replace hv199_1 := Option.some.inj (hv199_1.symm.trans hx199_1)
                  rw [hv199_1] at ge199_1
                  have HL199_1 := Aside0.mk (show Kd.R k44 44 _ _ _ _ ((rd_T47 t195 x6_1).f1) from ge199_1)
                  clear hv199_1 ge199_1
                  clear hcc199 hce199
                  have HR199_1 := Aside0.mk hi199_1
                  have HC199_1 := Aside0.mk hl199_1
                  clear hi199_1 hl199_1
                  replace p199 := eq_true p199
                  replace q199 := eq_true q199
                  have p200 : 0 ≤ (x6_1 : Int) := of_decide_eq_true (by first | (with_reducible assumption) | assumption)
                  have q200 : x6_1 < (l0.length : Int) := of_decide_eq_true (by first | (with_reducible assumption) | assumption)
                  obtain ⟨ad200, A200_1, c200_1, e200, hx200_0, hx200_1, hl200_1, hi200_1⟩ := at_T47 HR0.out x6_1 p200 q200
                  obtain rfl : ad198 = ad200 := (by injection e200)
                  replace hx200_0 := (HB.out.cell (World.block_lt_of_cell? w _ hx200_0)).trans hx200_0
                  replace hx200_1 := (HB.out.cell (World.block_lt_of_cell? w _ hx200_1)).trans hx200_1
                  have HR200_1 := Aside0.mk hi200_1
                  have HC200_1 := Aside0.mk hl200_1
                  clear hi200_1 hl200_1
                  replace p200 := eq_true p200
                  replace q200 := eq_true q200
                  have ea_ := Option.some.inj (hx198_1.symm.trans hx200_1)
                  injection ea_ with ea_ en_ ec_
                  subst ea_
                  subst ec_
                  clear en_
                  have p201 : 0 ≤ (x6_1 : Int) := of_decide_eq_true (by first | (with_reducible assumption) | assumption)
                  have q201 : x6_1 < (t195.length : Int) := of_decide_eq_true (by first | (with_reducible assumption) | assumption)
                  obtain ⟨ad201, A201_1, c201_1, e201, hx201_0, hx201_1, hl201_1, hi201_1⟩ := at_T47 (Kd.S_reads' HO_5.out).2.2 x6_1 p201 q201
                  obtain rfl : ad199 = ad201 := (by injection e201)
                  obtain ⟨ce201, hce201, hMe201, hcc201⟩ := Kd.S_get HO_5.out z47 x6_1 p201 (by first | exact q201 | exact of_decide_eq_true (by first | (with_reducible assumption) | assumption) | (have e_ := (Kd.S_reads' HO_5.out).1; omega))
                  obtain ⟨ve201_1, rfl, ge201_1⟩ := k47_openM hMe201
                  have hv201_1 := hcc201 1 _ rfl
                  rw [add_field _ _ 1 (by omega)] at hv201_1
                  replace hv201_1 := Option.some.inj (hv201_1.symm.trans hx201_1)
                  rw [hv201_1] at ge201_1
                  have HL201_1 := Aside0.mk (show Kd.R k44 44 _ _ _ _ ((rd_T47 t195 x6_1).f1) from ge201_1)
                  clear hv201_1 ge201_1
                  clear hcc201 hce201
                  have HR201_1 := Aside0.mk hi201_1
                  have HC201_1 := Aside0.mk hl201_1
                  clear hi201_1 hl201_1
                  replace p201 := eq_true p201
                  replace q201 := eq_true q201
                  have ea_ := Option.some.inj (hx199_1.symm.trans hx201_1)
                  injection ea_ with ea_ en_ ec_
                  subst ea_
                  subst ec_
                  clear en_
                  go_wp2
                  repeat (go_quiet (fail); try go_wp2)
                  go_meet
                  case rel => exact ⟨_, (((((rd_T47 l0 x6_1).f1).length : Int) != (((rd_T47 t195 x6_1).f1).length : Int))), (by first | rfl | (simp; done) | (simp [*]; done)), H', ⟨by have := HK1.out; first | omega | exact Nat.le_refl _⟩, ⟨by (with_reducible repeat (first | apply Kd.S_alloc | apply Kd.S_drewN | apply Kd.S_drew)); exact HO_5.out⟩, ⟨by repeat (first | (with_reducible first | exact HB.out | apply below_alloc | apply pw_below_drewN | apply below_drew1) | exact HB.out)⟩⟩
                · rw [if_neg c11] at H
                  have c11b0 : (((rd_T47 l0 x6_1).f0) == ((rd_T47 t195 x6_1).f0)) = false := beq_eq_false_iff_ne.mpr c11
                  have c11b1 : (((rd_T47 l0 x6_1).f0) != ((rd_T47 t195 x6_1).f0)) = true := bne_iff_ne.mpr c11
                  have H' := Aside0.mk H
                  clear H
                  have p198 : 0 ≤ (x6_1 : Int) := of_decide_eq_true (by first | (with_reducible assumption) | assumption)
                  have q198 : x6_1 < (l0.length : Int) := of_decide_eq_true (by first | (with_reducible assumption) | assumption)
                  obtain ⟨ad198, A198_1, c198_1, e198, hx198_0, hx198_1, hl198_1, hi198_1⟩ := at_T47 HR0.out x6_1 p198 q198
                  cases e198
                  replace hx198_0 := (HB.out.cell (World.block_lt_of_cell? w _ hx198_0)).trans hx198_0
                  replace hx198_1 := (HB.out.cell (World.block_lt_of_cell? w _ hx198_1)).trans hx198_1
                  have HR198_1 := Aside0.mk hi198_1
                  have HC198_1 := Aside0.mk hl198_1
                  clear hi198_1 hl198_1
                  replace p198 := eq_true p198
                  replace q198 := eq_true q198
                  have p199 : 0 ≤ (x6_1 : Int) := of_decide_eq_true (by first | (with_reducible assumption) | assumption)
                  have q199 : x6_1 < (t195.length : Int) := of_decide_eq_true (by first | (with_reducible assumption) | assumption)
                  obtain ⟨ad199, A199_1, c199_1, e199, hx199_0, hx199_1, hl199_1, hi199_1⟩ := at_T47 (Kd.S_reads' HO_5.out).2.2 x6_1 p199 q199
                  cases e199
                  obtain ⟨ce199, hce199, hMe199, hcc199⟩ := Kd.S_get HO_5.out z47 x6_1 p199 (by first | exact q199 | exact of_decide_eq_true (by first | (with_reducible assumption) | assumption) | (have e_ := (Kd.S_reads' HO_5.out).1; omega))
                  obtain ⟨ve199_1, rfl, ge199_1⟩ := k47_openM hMe199
                  have hv199_1 := hcc199 1 _ rfl
                  rw [add_field _ _ 1 (by omega)] at hv199_1
                  replace hv199_1 := Option.some.inj (hv199_1.symm.trans hx199_1)
                  rw [hv199_1] at ge199_1
                  have HL199_1 := Aside0.mk (show Kd.R k44 44 _ _ _ _ ((rd_T47 t195 x6_1).f1) from ge199_1)
                  clear hv199_1 ge199_1
                  clear hcc199 hce199
                  have HR199_1 := Aside0.mk hi199_1
                  have HC199_1 := Aside0.mk hl199_1
                  clear hi199_1 hl199_1
                  replace p199 := eq_true p199
                  replace q199 := eq_true q199
                  go_wp2
                  repeat (go_quiet (fail); try go_wp2)
                  go_meet
                  case rel => exact ⟨_, (true), (by first | rfl | (simp; done) | (simp [*]; done)), H', ⟨by have := HK1.out; first | omega | exact Nat.le_refl _⟩, ⟨by (with_reducible repeat (first | apply Kd.S_alloc | apply Kd.S_drewN | apply Kd.S_drew)); exact HO_5.out⟩, ⟨by repeat (first | (with_reducible first | exact HB.out | apply below_alloc | apply pw_below_drewN | apply below_drew1) | exact HB.out)⟩⟩
              · rw [if_neg c10] at H
                exact absurd H (by simp)
            · rw [if_neg c9] at H
              exact absurd H (by simp)
          case rest =>
            clear HC8
            try clear c1
            try clear p1
            try clear q1
            try clear hx1
            try clear c2
            try clear p2
            try clear q2
            try clear hx2
            try clear c4
            try clear c4b0
            try clear c4b1
            try clear c4b2
            try clear c7
            try clear c7b0
            try clear c9
            try clear c9b0
            try clear c10
            try clear c10b0
            try clear c11
            try clear c11b0
            try clear c11b1
            try clear hx198_0
            try clear hx198_1
            try clear hx199_0
            try clear hx199_1
            try clear hx200_0
            try clear hx200_1
            try clear hx201_0
            try clear hx201_1
            try clear p198
            try clear p199
            try clear p2
            try clear p200
            try clear p201
            try clear q198
            try clear q199
            try clear q200
            try clear q201
            obtain ⟨kq, x46_7, rfl, HA, HJ7, HO_5, HB⟩ := hcut
            cases kq with
            | zero => exact absurd HA.out (by simp [haymowlaw02_told.j1])
            | succ kj7 =>
              have H := HA.out
              clear HA
              simp only [haymowlaw02_told.j1] at H
              by_cases c12 : x46_7 = true
              · subst c12
                have H1 : (some false) = some r := by rw [if_pos rfl] at H; exact H
                clear H
                have H := H1
                clear H1
                obtain rfl := Option.some.inj H
                go_wp2
                repeat (go_quiet (fail); try go_wp2)
                go_ret
                exact ⟨by first | rfl | (simp [errW_none, errW_some] <;> rfl) | (simp [*, errW_none, errW_some] <;> rfl), by repeat (first | (with_reducible first | exact HB.out | apply below_alloc | apply pw_below_drewN | apply below_drew1) | exact HB.out)⟩
              · replace c12 := Bool.eq_false_iff.mpr c12
                subst c12
                have H1 : (haymowlaw02_told.l1 kj7 l0 t195 x6_1 0) = some r := by rw [if_neg (show ¬ (false = true) by decide)] at H; exact H
                clear H
                have H := H1
                clear H1
                have H' := Aside0.mk H
                clear H
                go_wp2
                repeat (go_quiet (fail); try go_wp2)
                go_loopg [7] kj7 (fun kq v7 w' => ∃ (x7_3 : Int), v7 = .int .i64 x7_3 ∧ Aside0 (haymowlaw02_told.l1 kq l0 t195 x6_1 x7_3 = some r) ∧ Aside0 (kq ≤ kj7) ∧ Aside0 (Kd.S k47 47 w' w.heap.size (fun _ => True) (.slice Ao6 t195.length co6) t195) ∧ Aside0 (Below w.heap.size w w'))
                case atStart => exact ⟨(0), (by first | rfl | (simp; done) | (simp [*]; done)), H', ⟨Nat.le_refl _⟩, ⟨by (with_reducible repeat (first | apply Kd.S_alloc | apply Kd.S_drewN | apply Kd.S_drew)); exact HO_5.out⟩, ⟨by repeat (first | (with_reducible first | exact HB.out | apply below_alloc | apply pw_below_drewN | apply below_drew1) | exact HB.out)⟩⟩
                case round =>
                  clear H'
                  try clear c1
                  try clear p1
                  try clear q1
                  try clear hx1
                  try clear c2
                  try clear p2
                  try clear q2
                  try clear hx2
                  try clear c4
                  try clear c4b0
                  try clear c4b1
                  try clear c4b2
                  try clear c7
                  try clear c7b0
                  try clear c9
                  try clear c9b0
                  try clear c10
                  try clear c10b0
                  try clear c11
                  try clear c11b0
                  try clear c11b1
                  try clear c12
                  try clear hx198_0
                  try clear hx198_1
                  try clear hx199_0
                  try clear hx199_1
                  try clear hx200_0
                  try clear hx200_1
                  try clear hx201_0
                  try clear hx201_1
                  try clear p1
                  try clear p198
                  try clear p199
                  try clear p2
                  try clear p200
                  try clear p201
                  try clear q1
                  try clear q198
                  try clear q199
                  try clear q2
                  try clear q200
                  try clear q201
                  obtain ⟨x7_3, rfl, HA, HK3, HO_5, HB⟩ := hrel
                  cases gk with
                  | zero => exact absurd HA.out (by simp [haymowlaw02_told.l1])
                  | succ k3 =>
                    have H := HA.out
                    clear HA
                    simp only [haymowlaw02_told.l1] at H
                    by_cases c13 : 0 ≤ x6_1
                    · rw [if_pos c13] at H
                      have c13b0 : decide (0 ≤ x6_1) = true := decide_eq_true c13
                      clear c13
                      by_cases c14 : x6_1 < (t195.length : Int)
                      · rw [if_pos c14] at H
                        have c14b0 : decide (x6_1 < (t195.length : Int)) = true := decide_eq_true c14
                        clear c14
                        by_cases c15 : x7_3 < (((rd_T47 t195 x6_1).f1).length : Int)
                        · rw [if_pos c15] at H
                          have c15b0 : decide (x7_3 < (((rd_T47 t195 x6_1).f1).length : Int)) = true := decide_eq_true c15
                          clear c15
                          by_cases c16 : x6_1 < (l0.length : Int)
                          · rw [if_pos c16] at H
                            have c16b0 : decide (x6_1 < (l0.length : Int)) = true := decide_eq_true c16
                            clear c16
                            by_cases c17 : 0 ≤ x7_3
                            · rw [if_pos c17] at H
                              have c17b0 : decide (0 ≤ x7_3) = true := decide_eq_true c17
                              clear c17
                              by_cases c18 : x7_3 < (((rd_T47 l0 x6_1).f1).length : Int)
                              · rw [if_pos c18] at H
                                have c18b0 : decide (x7_3 < (((rd_T47 l0 x6_1).f1).length : Int)) = true := decide_eq_true c18
                                clear c18
                                by_cases c19 : (!(((rd_T44 ((rd_T47 l0 x6_1).f1) x7_3).f0) == ((rd_T44 ((rd_T47 t195 x6_1).f1) x7_3).f0)) || (!(((rd_T44 ((rd_T47 l0 x6_1).f1) x7_3).f1) == ((rd_T44 ((rd_T47 t195 x6_1).f1) x7_3).f1)) || (!(((rd_T44 ((rd_T47 l0 x6_1).f1) x7_3).f2) == ((rd_T44 ((rd_T47 t195 x6_1).f1) x7_3).f2)) || (!(((rd_T44 ((rd_T47 l0 x6_1).f1) x7_3).f3) == ((rd_T44 ((rd_T47 t195 x6_1).f1) x7_3).f3)) || (!(((rd_T44 ((rd_T47 l0 x6_1).f1) x7_3).f4) == ((rd_T44 ((rd_T47 t195 x6_1).f1) x7_3).f4))))))) = true
                                · rw [if_pos c19] at H
                                  have c19b0 : (!(((rd_T44 ((rd_T47 l0 x6_1).f1) x7_3).f0) == ((rd_T44 ((rd_T47 t195 x6_1).f1) x7_3).f0)) || (!(((rd_T44 ((rd_T47 l0 x6_1).f1) x7_3).f1) == ((rd_T44 ((rd_T47 t195 x6_1).f1) x7_3).f1)) || (!(((rd_T44 ((rd_T47 l0 x6_1).f1) x7_3).f2) == ((rd_T44 ((rd_T47 t195 x6_1).f1) x7_3).f2)) || (!(((rd_T44 ((rd_T47 l0 x6_1).f1) x7_3).f3) == ((rd_T44 ((rd_T47 t195 x6_1).f1) x7_3).f3)) || (!(((rd_T44 ((rd_T47 l0 x6_1).f1) x7_3).f4) == ((rd_T44 ((rd_T47 t195 x6_1).f1) x7_3).f4))))))) = true := c19
                                  clear c19
                                  obtain rfl := Option.some.inj H
                                  have p202 : 0 ≤ (x6_1 : Int) := of_decide_eq_true (by first | (with_reducible assumption) | assumption)
                                  have q202 : x6_1 < (t195.length : Int) := of_decide_eq_true (by first | (with_reducible assumption) | assumption)
                                  obtain ⟨ad202, A202_1, c202_1, e202, hx202_0, hx202_1, hl202_1, hi202_1⟩ := at_T47 (Kd.S_reads' HO_5.out).2.2 x6_1 p202 q202
                                  cases e202
                                  obtain ⟨ce202, hce202, hMe202, hcc202⟩ := Kd.S_get HO_5.out z47 x6_1 p202 (by first | exact q202 | exact of_decide_eq_true (by first | (with_reducible assumption) | assumption) | (have e_ := (Kd.S_reads' HO_5.out).1; omega))
                                  obtain ⟨ve202_1, rfl, ge202_1⟩ := k47_openM hMe202
                                  have hv202_1 := hcc202 1 _ rfl
                                  rw [add_field _ _ 1 (by omega)] at hv202_1
                                  replace hv202_1 := Option.some.inj (hv202_1.symm.trans hx202_1)
                                  rw [hv202_1] at ge202_1
                                  have HL202_1 := Aside0.mk (show Kd.R k44 44 _ _ _ _ ((rd_T47 t195 x6_1).f1) from ge202_1)
                                  clear hv202_1 ge202_1
                                  clear hcc202 hce202
                                  have HR202_1 := Aside0.mk hi202_1
                                  have HC202_1 := Aside0.mk hl202_1
                                  clear hi202_1 hl202_1
                                  replace p202 := eq_true p202
                                  replace q202 := eq_true q202
                                  have p203 : 0 ≤ (x6_1 : Int) := of_decide_eq_true (by first | (with_reducible assumption) | assumption)
                                  have q203 : x6_1 < (l0.length : Int) := of_decide_eq_true (by first | (with_reducible assumption) | assumption)
                                  obtain ⟨ad203, A203_1, c203_1, e203, hx203_0, hx203_1, hl203_1, hi203_1⟩ := at_T47 HR0.out x6_1 p203 q203
                                  cases e203
                                  replace hx203_0 := (HB.out.cell (World.block_lt_of_cell? w _ hx203_0)).trans hx203_0
                                  replace hx203_1 := (HB.out.cell (World.block_lt_of_cell? w _ hx203_1)).trans hx203_1
                                  have HR203_1 := Aside0.mk hi203_1
                                  have HC203_1 := Aside0.mk hl203_1
                                  clear hi203_1 hl203_1
                                  replace p203 := eq_true p203
                                  replace q203 := eq_true q203
                                  have p204 : 0 ≤ (x7_3 : Int) := of_decide_eq_true (by first | (with_reducible assumption) | assumption)
                                  have q204 : x7_3 < (((rd_T47 l0 x6_1).f1).length : Int) := of_decide_eq_true (by first | (with_reducible assumption) | assumption)
                                  obtain ⟨ad204, e204, hx204_0, hx204_1, hx204_2, hx204_3, hx204_4⟩ := at_T44 HR203_1.out x7_3 p204 q204
                                  cases e204
                                  replace hx204_0 := (HB.out.cell (World.block_lt_of_cell? w _ hx204_0)).trans hx204_0
                                  replace hx204_1 := (HB.out.cell (World.block_lt_of_cell? w _ hx204_1)).trans hx204_1
                                  replace hx204_2 := (HB.out.cell (World.block_lt_of_cell? w _ hx204_2)).trans hx204_2
                                  replace hx204_3 := (HB.out.cell (World.block_lt_of_cell? w _ hx204_3)).trans hx204_3
                                  replace hx204_4 := (HB.out.cell (World.block_lt_of_cell? w _ hx204_4)).trans hx204_4
                                  replace p204 := eq_true p204
                                  replace q204 := eq_true q204
                                  have p205 : 0 ≤ (x6_1 : Int) := of_decide_eq_true (by first | (with_reducible assumption) | assumption)
                                  have q205 : x6_1 < (t195.length : Int) := of_decide_eq_true (by first | (with_reducible assumption) | assumption)
                                  obtain ⟨ad205, A205_1, c205_1, e205, hx205_0, hx205_1, hl205_1, hi205_1⟩ := at_T47 (Kd.S_reads' HO_5.out).2.2 x6_1 p205 q205
                                  obtain rfl : ad202 = ad205 := (by injection e205)
                                  obtain ⟨ce205, hce205, hMe205, hcc205⟩ := Kd.S_get HO_5.out z47 x6_1 p205 (by first | exact q205 | exact of_decide_eq_true (by first | (with_reducible assumption) | assumption) | (have e_ := (Kd.S_reads' HO_5.out).1; omega))
                                  obtain ⟨ve205_1, rfl, ge205_1⟩ := k47_openM hMe205
                                  have hv205_1 := hcc205 1 _ rfl
                                  rw [add_field _ _ 1 (by omega)] at hv205_1
                                  replace hv205_1 := Option.some.inj (hv205_1.symm.trans hx205_1)
                                  rw [hv205_1] at ge205_1
                                  have HL205_1 := Aside0.mk (show Kd.R k44 44 _ _ _ _ ((rd_T47 t195 x6_1).f1) from ge205_1)
                                  clear hv205_1 ge205_1
                                  clear hcc205 hce205
                                  have HR205_1 := Aside0.mk hi205_1
                                  have HC205_1 := Aside0.mk hl205_1
                                  clear hi205_1 hl205_1
                                  replace p205 := eq_true p205
                                  replace q205 := eq_true q205
                                  have ea_ := Option.some.inj (hx202_1.symm.trans hx205_1)
                                  injection ea_ with ea_ en_ ec_
                                  subst ea_
                                  subst ec_
                                  clear en_
                                  have p206 : 0 ≤ (x7_3 : Int) := of_decide_eq_true (by first | (with_reducible assumption) | assumption)
                                  have q206 : x7_3 < (((rd_T47 t195 x6_1).f1).length : Int) := of_decide_eq_true (by first | (with_reducible assumption) | assumption)
                                  obtain ⟨ad206, e206, hx206_0, hx206_1, hx206_2, hx206_3, hx206_4⟩ := at_T44 (by repeat (first | (with_reducible exact HR205_1.out) | (with_reducible refine Kd.C_alloc ?_ _) | (with_reducible refine Kd.C_drewN ?_ _) | (with_reducible refine Kd.C_drew ?_) | exact HR205_1.out)) x7_3 p206 q206
                                  cases e206
                                  replace p206 := eq_true p206
                                  replace q206 := eq_true q206
                                  go_wp2
                                  repeat (go_quiet (fail); try go_wp2)
                                  go_ret
                                  exact ⟨by first | rfl | (simp [errW_none, errW_some] <;> rfl) | (simp [*, errW_none, errW_some] <;> rfl), by repeat (first | (with_reducible first | exact HB.out | apply below_alloc | apply pw_below_drewN | apply below_drew1) | exact HB.out)⟩
                                · rw [if_neg c19] at H
                                  have c19b0 : (!(((rd_T44 ((rd_T47 l0 x6_1).f1) x7_3).f0) == ((rd_T44 ((rd_T47 t195 x6_1).f1) x7_3).f0)) || (!(((rd_T44 ((rd_T47 l0 x6_1).f1) x7_3).f1) == ((rd_T44 ((rd_T47 t195 x6_1).f1) x7_3).f1)) || (!(((rd_T44 ((rd_T47 l0 x6_1).f1) x7_3).f2) == ((rd_T44 ((rd_T47 t195 x6_1).f1) x7_3).f2)) || (!(((rd_T44 ((rd_T47 l0 x6_1).f1) x7_3).f3) == ((rd_T44 ((rd_T47 t195 x6_1).f1) x7_3).f3)) || (!(((rd_T44 ((rd_T47 l0 x6_1).f1) x7_3).f4) == ((rd_T44 ((rd_T47 t195 x6_1).f1) x7_3).f4))))))) = false := by simpa using c19
                                  clear c19
                                  have H' := Aside0.mk H
                                  clear H
                                  have p202 : 0 ≤ (x6_1 : Int) := of_decide_eq_true (by first | (with_reducible assumption) | assumption)
                                  have q202 : x6_1 < (t195.length : Int) := of_decide_eq_true (by first | (with_reducible assumption) | assumption)
                                  obtain ⟨ad202, A202_1, c202_1, e202, hx202_0, hx202_1, hl202_1, hi202_1⟩ := at_T47 (Kd.S_reads' HO_5.out).2.2 x6_1 p202 q202
                                  cases e202
                                  obtain ⟨ce202, hce202, hMe202, hcc202⟩ := Kd.S_get HO_5.out z47 x6_1 p202 (by first | exact q202 | exact of_decide_eq_true (by first | (with_reducible assumption) | assumption) | (have e_ := (Kd.S_reads' HO_5.out).1; omega))
                                  obtain ⟨ve202_1, rfl, ge202_1⟩ := k47_openM hMe202
                                  have hv202_1 := hcc202 1 _ rfl
                                  rw [add_field _ _ 1 (by omega)] at hv202_1
                                  replace hv202_1 := Option.some.inj (hv202_1.symm.trans hx202_1)
                                  rw [hv202_1] at ge202_1
                                  have HL202_1 := Aside0.mk (show Kd.R k44 44 _ _ _ _ ((rd_T47 t195 x6_1).f1) from ge202_1)
                                  clear hv202_1 ge202_1
                                  clear hcc202 hce202
                                  have HR202_1 := Aside0.mk hi202_1
                                  have HC202_1 := Aside0.mk hl202_1
                                  clear hi202_1 hl202_1
                                  replace p202 := eq_true p202
                                  replace q202 := eq_true q202
                                  have p203 : 0 ≤ (x6_1 : Int) := of_decide_eq_true (by first | (with_reducible assumption) | assumption)
                                  have q203 : x6_1 < (l0.length : Int) := of_decide_eq_true (by first | (with_reducible assumption) | assumption)
                                  obtain ⟨ad203, A203_1, c203_1, e203, hx203_0, hx203_1, hl203_1, hi203_1⟩ := at_T47 HR0.out x6_1 p203 q203
                                  cases e203
                                  replace hx203_0 := (HB.out.cell (World.block_lt_of_cell? w _ hx203_0)).trans hx203_0
                                  replace hx203_1 := (HB.out.cell (World.block_lt_of_cell? w _ hx203_1)).trans hx203_1
                                  have HR203_1 := Aside0.mk hi203_1
                                  have HC203_1 := Aside0.mk hl203_1
                                  clear hi203_1 hl203_1
                                  replace p203 := eq_true p203
                                  replace q203 := eq_true q203
                                  have p204 : 0 ≤ (x7_3 : Int) := of_decide_eq_true (by first | (with_reducible assumption) | assumption)
                                  have q204 : x7_3 < (((rd_T47 l0 x6_1).f1).length : Int) := of_decide_eq_true (by first | (with_reducible assumption) | assumption)
                                  obtain ⟨ad204, e204, hx204_0, hx204_1, hx204_2, hx204_3, hx204_4⟩ := at_T44 HR203_1.out x7_3 p204 q204
                                  cases e204
                                  replace hx204_0 := (HB.out.cell (World.block_lt_of_cell? w _ hx204_0)).trans hx204_0
                                  replace hx204_1 := (HB.out.cell (World.block_lt_of_cell? w _ hx204_1)).trans hx204_1
                                  replace hx204_2 := (HB.out.cell (World.block_lt_of_cell? w _ hx204_2)).trans hx204_2
                                  replace hx204_3 := (HB.out.cell (World.block_lt_of_cell? w _ hx204_3)).trans hx204_3
                                  replace hx204_4 := (HB.out.cell (World.block_lt_of_cell? w _ hx204_4)).trans hx204_4
                                  replace p204 := eq_true p204
                                  replace q204 := eq_true q204
                                  have p205 : 0 ≤ (x6_1 : Int) := of_decide_eq_true (by first | (with_reducible assumption) | assumption)
                                  have q205 : x6_1 < (t195.length : Int) := of_decide_eq_true (by first | (with_reducible assumption) | assumption)
                                  obtain ⟨ad205, A205_1, c205_1, e205, hx205_0, hx205_1, hl205_1, hi205_1⟩ := at_T47 (Kd.S_reads' HO_5.out).2.2 x6_1 p205 q205
                                  obtain rfl : ad202 = ad205 := (by injection e205)
                                  obtain ⟨ce205, hce205, hMe205, hcc205⟩ := Kd.S_get HO_5.out z47 x6_1 p205 (by first | exact q205 | exact of_decide_eq_true (by first | (with_reducible assumption) | assumption) | (have e_ := (Kd.S_reads' HO_5.out).1; omega))
                                  obtain ⟨ve205_1, rfl, ge205_1⟩ := k47_openM hMe205
                                  have hv205_1 := hcc205 1 _ rfl
                                  rw [add_field _ _ 1 (by omega)] at hv205_1
                                  replace hv205_1 := Option.some.inj (hv205_1.symm.trans hx205_1)
                                  rw [hv205_1] at ge205_1
                                  have HL205_1 := Aside0.mk (show Kd.R k44 44 _ _ _ _ ((rd_T47 t195 x6_1).f1) from ge205_1)
                                  clear hv205_1 ge205_1
                                  clear hcc205 hce205
                                  have HR205_1 := Aside0.mk hi205_1
                                  have HC205_1 := Aside0.mk hl205_1
                                  clear hi205_1 hl205_1
                                  replace p205 := eq_true p205
                                  replace q205 := eq_true q205
                                  have ea_ := Option.some.inj (hx202_1.symm.trans hx205_1)
                                  injection ea_ with ea_ en_ ec_
                                  subst ea_
                                  subst ec_
                                  clear en_
                                  have p206 : 0 ≤ (x7_3 : Int) := of_decide_eq_true (by first | (with_reducible assumption) | assumption)
                                  have q206 : x7_3 < (((rd_T47 t195 x6_1).f1).length : Int) := of_decide_eq_true (by first | (with_reducible assumption) | assumption)
                                  obtain ⟨ad206, e206, hx206_0, hx206_1, hx206_2, hx206_3, hx206_4⟩ := at_T44 (by repeat (first | (with_reducible exact HR205_1.out) | (with_reducible refine Kd.C_alloc ?_ _) | (with_reducible refine Kd.C_drewN ?_ _) | (with_reducible refine Kd.C_drew ?_) | exact HR205_1.out)) x7_3 p206 q206
                                  cases e206
                                  replace p206 := eq_true p206
                                  replace q206 := eq_true q206
                                  go_wp2
                                  repeat (go_quiet (fail); try go_wp2)
                                  go_roundg k3
                                  case measure => have := HK1.out; have := HJ7.out; have := HK3.out; omega
                                  case rel => exact ⟨(wrap64 (x7_3 + 1)), (by first | rfl | (simp; done) | (simp [*]; done)), H', ⟨by have := HK1.out; have := HJ7.out; have := HK3.out; omega⟩, ⟨by (with_reducible repeat (first | apply Kd.S_alloc | apply Kd.S_drewN | apply Kd.S_drew)); exact HO_5.out⟩, ⟨by repeat (first | (with_reducible first | exact HB.out | apply below_alloc | apply pw_below_drewN | apply below_drew1) | exact HB.out)⟩⟩
                              · rw [if_neg c18] at H
                                exact absurd H (by simp)
                            · rw [if_neg c17] at H
                              exact absurd H (by simp)
                          · rw [if_neg c16] at H
                            exact absurd H (by simp)
                        · rw [if_neg c15] at H
                          have c15b0 : decide (x7_3 < (((rd_T47 t195 x6_1).f1).length : Int)) = false := decide_eq_false c15
                          clear c15
                          have H' := Aside0.mk H
                          clear H
                          have p202 : 0 ≤ (x6_1 : Int) := of_decide_eq_true (by first | (with_reducible assumption) | assumption)
                          have q202 : x6_1 < (t195.length : Int) := of_decide_eq_true (by first | (with_reducible assumption) | assumption)
                          obtain ⟨ad202, A202_1, c202_1, e202, hx202_0, hx202_1, hl202_1, hi202_1⟩ := at_T47 (Kd.S_reads' HO_5.out).2.2 x6_1 p202 q202
                          cases e202
                          obtain ⟨ce202, hce202, hMe202, hcc202⟩ := Kd.S_get HO_5.out z47 x6_1 p202 (by first | exact q202 | exact of_decide_eq_true (by first | (with_reducible assumption) | assumption) | (have e_ := (Kd.S_reads' HO_5.out).1; omega))
                          obtain ⟨ve202_1, rfl, ge202_1⟩ := k47_openM hMe202
                          have hv202_1 := hcc202 1 _ rfl
                          rw [add_field _ _ 1 (by omega)] at hv202_1
                          replace hv202_1 := Option.some.inj (hv202_1.symm.trans hx202_1)
                          rw [hv202_1] at ge202_1
                          have HL202_1 := Aside0.mk (show Kd.R k44 44 _ _ _ _ ((rd_T47 t195 x6_1).f1) from ge202_1)
                          clear hv202_1 ge202_1
                          clear hcc202 hce202
                          have HR202_1 := Aside0.mk hi202_1
                          have HC202_1 := Aside0.mk hl202_1
                          clear hi202_1 hl202_1
                          replace p202 := eq_true p202
                          replace q202 := eq_true q202
                          go_wp2
                          repeat (go_quiet (fail); try go_wp2)
                          go_roundg k3
                          case measure => have := HK1.out; have := HJ7.out; have := HK3.out; omega
                          case rel => exact ⟨(wrap64 (x6_1 + 1)), (by first | rfl | (simp; done) | (simp [*]; done)), H', ⟨by have := HK1.out; have := HJ7.out; have := HK3.out; omega⟩, ⟨by (with_reducible repeat (first | apply Kd.S_alloc | apply Kd.S_drewN | apply Kd.S_drew)); exact HO_5.out⟩, ⟨by repeat (first | (with_reducible first | exact HB.out | apply below_alloc | apply pw_below_drewN | apply below_drew1) | exact HB.out)⟩⟩
                      · rw [if_neg c14] at H
                        exact absurd H (by simp)
                    · rw [if_neg c13] at H
                      exact absurd H (by simp)
        · rw [if_neg c7] at H
          have c7b0 : decide (x6_1 < (t195.length : Int)) = false := decide_eq_false c7
          clear c7
          obtain rfl := Option.some.inj H
          go_wp2
          repeat (go_quiet (fail); try go_wp2)
          go_ret
          exact ⟨by first | rfl | (simp [errW_none, errW_some] <;> rfl) | (simp [*, errW_none, errW_some] <;> rfl), by repeat (first | (with_reducible first | exact HB.out | apply below_alloc | apply pw_below_drewN | apply below_drew1) | exact HB.out)⟩
  · rw [if_neg c4] at H
    have c4b0 : ((l0.length : Int) == (t195.length : Int)) = false := beq_eq_false_iff_ne.mpr c4
    have c4b1 : ((l0.length : Int) != (t195.length : Int)) = true := bne_iff_ne.mpr c4
    have c4b2 : (l0.length == t195.length) = false := by first | simpa using c4 | (simp at c4 ⊢; omega)
    obtain rfl := Option.some.inj H
    go_enter Try.func16, Try.ntmps16
    go_wp2_with (first | (go_at_call 11; (with_reducible refine (haymowlaw02_of.calls k _ _ l1 t195 _ ?side1 ?side2 A3.out).mono ?_); (case side1 => repeat (first | exact HR1.out | (with_reducible refine Kd.C_alloc ?_ _) | (with_reducible refine Kd.C_drewN ?_ _) | (with_reducible refine Kd.C_drew ?_))); (case side2 => exact HC1.out); rintro e w20 ⟨v196, rfl, ho0, hb⟩; have n0_ := Aside0.mk (Kd.S_lower ho0 (below_size (by repeat (first | (with_reducible first | exact HB.out | apply below_alloc | apply pw_below_drewN | apply below_drew1) | exact HB.out)))); have n1_ := Aside0.mk (below_step (by repeat (first | (with_reducible first | exact HB.out | apply below_alloc | apply pw_below_drewN | apply below_drew1) | exact HB.out)) hb); clear HB; have HO197 := n0_; have HB := n1_; clear n0_ n1_; (try clear hb); (try clear hb2); (try clear hk); (try clear hi); (try clear ho0); obtain ⟨Ao21, co21, eo21⟩ := Kd.S_slice HO197.out; subst eo21))
    repeat (go_quiet (first | (go_at_call 11; (with_reducible refine (haymowlaw02_of.calls k _ _ l1 t195 _ ?side1 ?side2 A3.out).mono ?_); (case side1 => repeat (first | exact HR1.out | (with_reducible refine Kd.C_alloc ?_ _) | (with_reducible refine Kd.C_drewN ?_ _) | (with_reducible refine Kd.C_drew ?_))); (case side2 => exact HC1.out); rintro e w20 ⟨v196, rfl, ho0, hb⟩; have n0_ := Aside0.mk (Kd.S_lower ho0 (below_size (by repeat (first | (with_reducible first | exact HB.out | apply below_alloc | apply pw_below_drewN | apply below_drew1) | exact HB.out)))); have n1_ := Aside0.mk (below_step (by repeat (first | (with_reducible first | exact HB.out | apply below_alloc | apply pw_below_drewN | apply below_drew1) | exact HB.out)) hb); clear HB; have HO197 := n0_; have HB := n1_; clear n0_ n1_; (try clear hb); (try clear hb2); (try clear hk); (try clear hi); (try clear ho0); obtain ⟨Ao21, co21, eo21⟩ := Kd.S_slice HO197.out; subst eo21)); try go_wp2_with (first | (go_at_call 11; (with_reducible refine (haymowlaw02_of.calls k _ _ l1 t195 _ ?side1 ?side2 A3.out).mono ?_); (case side1 => repeat (first | exact HR1.out | (with_reducible refine Kd.C_alloc ?_ _) | (with_reducible refine Kd.C_drewN ?_ _) | (with_reducible refine Kd.C_drew ?_))); (case side2 => exact HC1.out); rintro e w20 ⟨v196, rfl, ho0, hb⟩; have n0_ := Aside0.mk (Kd.S_lower ho0 (below_size (by repeat (first | (with_reducible first | exact HB.out | apply below_alloc | apply pw_below_drewN | apply below_drew1) | exact HB.out)))); have n1_ := Aside0.mk (below_step (by repeat (first | (with_reducible first | exact HB.out | apply below_alloc | apply pw_below_drewN | apply below_drew1) | exact HB.out)) hb); clear HB; have HO197 := n0_; have HB := n1_; clear n0_ n1_; (try clear hb); (try clear hb2); (try clear hk); (try clear hi); (try clear ho0); obtain ⟨Ao21, co21, eo21⟩ := Kd.S_slice HO197.out; subst eo21)))
    go_ret
    exact ⟨by first | rfl | (simp [errW_none, errW_some] <;> rfl) | (simp [*, errW_none, errW_some] <;> rfl), by repeat (first | (with_reducible first | exact HB.out | apply below_alloc | apply pw_below_drewN | apply below_drew1) | exact HB.out)⟩

end Go.Proofs.Ytojnimaiggobeaa.H
