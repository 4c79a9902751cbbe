/- Plain laws: Graham's bound and the least time, as the program reckons them. -/
import Derived.Test.YtenmicgohmamaaaPG6
namespace Go.Proofs.Ytenmicgohmamaaa.H
open Go.RowKit Go.Hay Go.Proofs.YtenmicgohmamaaaW.PrintWords Go.Proofs.YtenmicgohmamaaaW.PrintLast Go.Proofs.YtenmicgohmamaaaW.PrintMore
set_option linter.unusedVariables false
set_option linter.unusedSimpArgs false
theorem k_of {a : Int} (h : (Lit.int .u8 a).wf = true) : ∃ k : Int, wrap64 ((Int.tmod (wrap64 a) 64) + 1) = k ∧ 1 ≤ k ∧ k ≤ 64 := by
  have e1 : IntKind.u8.min = 0 := by decide
  have e2 : IntKind.u8.max = 255 := by decide
  simp [Lit.wf, go_sem, e1, e2] at h
  have h0 : 0 ≤ Int.tmod a 64 := Int.tmod_nonneg _ (by omega)
  have h1 : Int.tmod a 64 < 64 := Int.tmod_lt_of_pos _ (by omega)
  refine ⟨Int.tmod a 64 + 1, ?_, by omega, by omega⟩
  rw [wrap_id (x := a) (by omega) (by omega), wrap_id (by omega) (by omega)]
theorem wfs_small {W : List Int} (h : ∀ x ∈ W, 0 ≤ x ∧ x < 1000) : wfs W = true := by
  have e1 : IntKind.i64.min = -9223372036854775808 := by decide
  have e2 : IntKind.i64.max = 9223372036854775807 := by decide
  refine List.all_eq_true.2 fun x hx => ?_
  have := h x hx
  simp [Lit.wf, go_sem, e1, e2]; omega
theorem dep_span {g : List (List Int)} (hd : dag g) {dl : List Int} (hs : DepS g dl) : topP 0 dl ≤ g.length := by
  refine span_le hs (by omega) fun j hj => ?_
  have := dep_small hd hs j hj
  omega
theorem mul_bound {k x : Int} (k1 : 1 ≤ k) (k2 : k ≤ 64) {b : Int} (h0 : 0 ≤ x) (h1 : x ≤ b) : 0 ≤ k * x ∧ k * x ≤ 64 * b := by
  refine ⟨Int.mul_nonneg (by omega) h0, ?_⟩
  calc k * x ≤ 64 * x := Int.mul_le_mul_of_nonneg_right k2 h0
    _ ≤ 64 * b := Int.mul_le_mul_of_nonneg_left h1 (by omega)
theorem time_top {W : List Int} {b : Int} (hb : 0 ≤ b) (h : ∀ x ∈ W, x + 1 ≤ b) : timeP W ≤ b := by
  rcases topP_mem (l := W) (a := -1) with e | e
  · unfold timeP; omega
  · have := h _ e; unfold timeP; exact this
theorem greedyBounds_pure (l : List (List Int)) (a : Int) (ha : (Lit.int .u8 a).wf = true) : ∃ n, haymowlaw15_GreedyBounds.f n l a = some true := by
  refine Ev.rounds (r := true) ?_
  obtain ⟨b, h1, h2⟩ := light_ev l
  obtain ⟨k, hk, k1, k2⟩ := k_of ha
  unfold haymowlaw15_GreedyBounds.f
  rw [hk]
  refine Ev.bind h1 ?_
  cases b with
  | false => simpa using Ev.now true
  | true =>
    have hf := h2 rfl
    have hL := hf.len
    simp only [if_true, plan_f hf, Option.bind_some]
    cases hm : mayB l k with
    | false =>
      simp only [Bool.false_eq_true, if_false]
      simp only [if_neg (show ¬ ((1 : Int) = 0) by omega)]
      exact Ev.bind awake_ev (Ev.now _)
    | true =>
      simp only [if_true]
      have hr := (may_parts hm).1
      have hd := dag_of hr
      have hg := plan_greedy hd k1
      obtain ⟨dl, hdl, hs⟩ := depths_f l hf.light hr
      refine Ev.bind (plan_time_ev hf hd k1) (Ev.bind (work_f l hf.light hr) (Ev.bind (span_f l hf.light hdl hs) ?_))
      have hW : ∀ x ∈ planP l k, 0 ≤ x ∧ x < 1000 := fun x hx => by have := plan_bound hd k1 x hx; omega
      rw [fits_f hf k (wfs_small hW), fitsP_iff.2 ⟨hm, hg.toFit⟩]
      have b1 := span_time hd hg.toFit hs
      have b2 := work_le hg.toFit
      have b3 := graham hd k1 hg hs (span_ge hs).2 (span_ge hs).1
      have b4 := dep_span hd hs
      have b5 := (span_ge hs).1
      have b6 := time_nonneg (planP l k)
      have b7 : timeP (planP l k) ≤ l.length := time_top (by omega) fun x hx => by have := plan_bound hd k1 x hx; omega
      have c1 := mul_bound k1 k2 b6 b7
      have c2 : 0 ≤ (k - 1) * topP 0 dl ∧ (k - 1) * topP 0 dl ≤ 64 * l.length := by
        refine ⟨Int.mul_nonneg (by omega) b5, ?_⟩
        calc (k - 1) * topP 0 dl ≤ 64 * topP 0 dl := Int.mul_le_mul_of_nonneg_right (by omega) b5
          _ ≤ 64 * l.length := Int.mul_le_mul_of_nonneg_left b4 (by omega)
      simp only [Option.bind_some, if_true]
      rw [wrap_id (x := k * timeP (planP l k)) (by omega) (by omega), wrap_id (x := k - 1) (by omega) (by omega), wrap_id (x := (k - 1) * topP 0 dl) (by omega) (by omega), wrap_id (x := (l.length : Int) + (k - 1) * topP 0 dl) (by omega) (by omega)]
      simp only [if_pos (show timeP (planP l k) ≥ topP 0 dl from b1), if_pos (show k * timeP (planP l k) ≥ (l.length : Int) from b2), if_pos b3]
      by_cases hk1 : k > 1
      · simp only [if_pos hk1]; exact Ev.bind awake_ev (Ev.now _)
      · obtain rfl : k = 1 := by omega
        have e : timeP (planP l 1) = l.length := by omega
        simp only [if_neg hk1, if_pos e]
        exact Ev.bind awake_ev (Ev.now _)
theorem least_loop (l : List (List Int)) (hf : few l) (a k : Int) (hk : wrap64 ((Int.tmod (wrap64 a) 64) + 1) = k) (k1 : 1 ≤ k) (k2 : k ≤ 64) (W : List Int) (hW : W.length ≤ 200) (hwf : wfs W = true) :
    ∀ (d i : Nat), W.length - i = d → i ≤ W.length → (∀ j : Nat, j < i → rd W j < 36028797018963968) → Ev (fun n => haymowlaw15_GreedyLeast.l0 n l a W i) true
  | 0, i, h, hi, hb => by
    obtain rfl : i = W.length := by omega
    have hL := hf.len
    have hend : ∀ n, haymowlaw15_GreedyLeast.l0 (n + 1) l a W (W.length : Int) = (greedy_Fits.f l k W).bind fun t256 => (if t256 = true then ((greedy_Plan.f l k).bind fun bt258 => ((greedy_Time.f n W).bind fun t262 => (if bt258.2 = 0 then ((graph_Span.f n l).bind fun t263 => (if t262 ≥ t263 then ((graph_Work.f n l).bind fun t264 => (if (wrap64 (k * t262)) ≥ t264 then ((greedy_Time.f n bt258.1).bind fun t265 => (if (wrap64 (2 * t262)) ≥ t265 then ((haymowlaw15_awake.f n).bind fun t266 => (some t266)) else (some false))) else (some false))) else (some false))) else (some false)))) else ((haymowlaw15_awake.f n).bind fun t257 => (some t257))) := fun n => by
      simp only [haymowlaw15_GreedyLeast.l0, hk]
      rw [if_neg (by omega)]
    refine Ev.step hend ?_
    rw [fits_f hf k hwf]
    simp only [Option.bind_some]
    cases hfit : fitsP l k W with
    | false => simp only [Bool.false_eq_true, if_false]; exact Ev.bind awake_ev (Ev.now _)
    | true =>
      obtain ⟨hm, hF⟩ := fitsP_iff.1 hfit
      have hr := (may_parts hm).1
      have hd := dag_of hr
      have hg := plan_greedy hd k1
      obtain ⟨dl, hdl, hs⟩ := depths_f l hf.light hr
      simp only [if_true, plan_f hf, hm, Option.bind_some]
      have hbW : ∀ x ∈ W, x < 36028797018963968 := fun x hx => by
        obtain ⟨j, hj, rfl⟩ := List.getElem_of_mem hx
        rw [← rd_get hj]; exact hb j hj
      refine Ev.bind (time_ev W (by omega) (fun x hx => by have := hbW x hx; omega)) (Ev.bind (span_f l hf.light hdl hs) ?_)
      have b1 := span_time hd hF hs
      have b2 := work_le hF
      have b3 := graham hd k1 hg hs (span_ge hs).2 (span_ge hs).1
      have b6 := time_nonneg W
      have b7 : timeP W ≤ 36028797018963968 := time_top (by omega) fun x hx => by have := hbW x hx; omega
      have c1 := mul_bound k1 k2 b6 b7
      have b8 : timeP (planP l k) ≤ 2 * timeP W := by
        have d1 : (k - 1) * topP 0 dl ≤ (k - 1) * timeP W := Int.mul_le_mul_of_nonneg_left b1 (by omega)
        have d2 : (k - 1) * timeP W = k * timeP W - timeP W := by rw [Int.sub_mul]; omega
        have d3 : k * timeP (planP l k) ≤ k * (2 * timeP W) := by
          have e : k * (2 * timeP W) = k * timeP W + k * timeP W := by rw [← Int.mul_add]; congr 1; omega
          omega
        exact Int.le_of_mul_le_mul_left d3 (by omega)
      simp only [if_pos (show timeP W ≥ topP 0 dl from b1)]
      refine Ev.bind (work_f l hf.light hr) ?_
      rw [wrap_id (x := k * timeP W) (by omega) (by omega)]
      simp only [if_pos (show k * timeP W ≥ (l.length : Int) from b2)]
      refine Ev.bind (plan_time_ev hf hd k1) ?_
      rw [wrap_id (x := 2 * timeP W) (by omega) (by omega)]
      simp only [if_pos (show 2 * timeP W ≥ timeP (planP l k) from b8)]
      exact Ev.bind awake_ev (Ev.now _)
  | d + 1, i, h, hi, hb => by
    have hlt : i < W.length := by omega
    by_cases hbig : rd W (i : Int) ≥ 36028797018963968
    · refine Ev.step (f := fun _ => some true) (fun n => ?_) (Ev.now _)
      simp only [haymowlaw15_GreedyLeast.l0]
      rw [if_pos (by omega), if_pos (by omega), if_pos hbig]
    · refine Ev.step (fun n => ?_) (least_loop l hf a k hk k1 k2 W hW hwf d (i + 1) (by omega) (by omega) (fun j hj => ?_))
      · simp only [haymowlaw15_GreedyLeast.l0]
        rw [if_pos (by omega), if_pos (by omega), if_neg hbig, wrap_id (x := (i : Int) + 1) (by omega) (by omega)]
        rfl
      · by_cases e : j = i
        · subst e; omega
        · exact hb j (by omega)
theorem greedyLeast_pure (l : List (List Int)) (a : Int) (W : List Int) (ha : (Lit.int .u8 a).wf = true) (hW : ∀ x ∈ W, (Lit.int .i64 x).wf = true) : ∃ n, haymowlaw15_GreedyLeast.f n l a W = some true := by
  refine Ev.rounds (r := true) ?_
  obtain ⟨b, h1, h2⟩ := light_ev l
  obtain ⟨k, hk, k1, k2⟩ := k_of ha
  have out : Ev (fun n => haymowlaw15_GreedyLeast.j0 n l a W true) true := Ev.step (f := fun _ => some true) (fun n => by simp [haymowlaw15_GreedyLeast.j0]) (Ev.now _)
  unfold haymowlaw15_GreedyLeast.f
  refine Ev.bind h1 ?_
  cases b with
  | false => simpa using out
  | true =>
    have hf := h2 rfl
    simp only [if_true]
    by_cases h200 : (W.length : Int) > 200
    · simpa [h200] using out
    · simp only [show decide ((W.length : Int) > 200) = false by simp; omega]
      refine Ev.step (fun n => ?_) (least_loop l hf a k hk k1 k2 W (by omega) (List.all_eq_true.2 hW) _ 0 rfl (Nat.zero_le _) (fun j hj => absurd hj (Nat.not_lt_zero _)))
      simp [haymowlaw15_GreedyLeast.j0]
end Go.Proofs.Ytenmicgohmamaaa.H
