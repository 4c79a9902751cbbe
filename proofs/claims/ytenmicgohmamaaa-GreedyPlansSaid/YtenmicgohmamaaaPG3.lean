/- Plain laws: the reference's plan is the greedy plan. -/
import Derived.Test.YtenmicgohmamaaaPG2
namespace Go.Proofs.Ytenmicgohmamaaa.H
open Go.RowKit Go.Hay Go.Proofs.YtenmicgohmamaaaW.PrintWords Go.Proofs.YtenmicgohmamaaaW.PrintLast Go.Proofs.YtenmicgohmamaaaW.PrintMore
set_option linter.unusedVariables false
set_option linter.unusedSimpArgs false
theorem ready_loop (l : List (List Int)) (hl : light l) (hd : dag l) (when : List Int) (t n : Nat) (hn : n < l.length) (hw : when.length = l.length) (hb : before when (t + 1)) :
    ∀ (d i : Nat), l[n].length - i = d → i ≤ l[n].length → Ev (fun k => haymowref15_ready.l0 k l when n t i) (!(l[n].drop i).any (waitB when t))
  | 0, i, h, hi => by
    obtain rfl : i = l[n].length := by omega
    rw [List.drop_length]
    refine Ev.step (f := fun _ => some true) (fun k => ?_) (Ev.now _)
    simp only [haymowref15_ready.l0, rdL_get hn]
    rw [if_pos (by omega), if_pos (by omega), if_neg (by omega)]
  | d + 1, i, h, hi => by
    have hlt : i < l[n].length := by omega
    have hR := hl.2 _ (List.getElem_mem hn)
    have hx := hd n hn _ (List.getElem_mem hlt)
    rw [drop_cons hlt, List.any_cons]
    obtain ⟨m, hm⟩ := Int.eq_ofNat_of_zero_le hx.1
    have hbm := hb m (by omega)
    have ih := ready_loop l hl hd when t n hn hw hb d (i + 1) (by omega) (by omega)
    by_cases h1 : rd when l[n][i] < 0
    · have e : waitB when t l[n][i] = true := by
        have : rd when l[n][i] = -1 := by rw [hm] at h1 ⊢; omega
        simp [waitB, this]
      rw [e]
      refine Ev.step (f := fun _ => some false) (fun k => ?_) (Ev.now _)
      simp only [haymowref15_ready.l0, rdL_get hn, rd_get hlt]
      rw [if_pos (by omega), if_pos (by omega), if_pos (by omega), if_pos (by omega), if_pos (by omega), if_pos (by omega), if_pos h1]
    · by_cases h2 : rd when l[n][i] ≥ t
      · have e : waitB when t l[n][i] = true := by
          have : rd when l[n][i] = t := by rw [hm] at h2 ⊢; omega
          simp [waitB, this]
        rw [e]
        refine Ev.step (f := fun _ => some false) (fun k => ?_) (Ev.now _)
        simp only [haymowref15_ready.l0, rdL_get hn, rd_get hlt]
        rw [if_pos (by omega), if_pos (by omega), if_pos (by omega), if_pos (by omega), if_pos (by omega), if_pos (by omega), if_neg h1, if_pos h2]
      · have e : waitB when t l[n][i] = false := by
          simp [waitB]; omega
        rw [e, Bool.false_or]
        refine Ev.step (fun k => ?_) ih
        simp only [haymowref15_ready.l0, rdL_get hn, rd_get hlt]
        rw [if_pos (by omega), if_pos (by omega), if_pos (by omega), if_pos (by omega), if_pos (by omega), if_pos (by omega), if_neg h1, if_neg h2, wrap_id (x := (i : Int) + 1) (by omega) (by omega)]
        rfl
theorem ready_ev (l : List (List Int)) (hl : light l) (hd : dag l) (when : List Int) (t n : Nat) (hn : n < l.length) (hw : when.length = l.length) (hb : before when (t + 1)) :
    Ev (fun k => haymowref15_ready.f k l when n t) (!skipB l t when n) := by
  have hg : l.getD n [] = l[n] := by simp [hn]
  have hbn := hb n (by omega)
  unfold haymowref15_ready.f skipB
  rw [hg]
  by_cases h : rd when (n : Int) ≥ 0
  · have e : (rd when (n : Int) != -1) = true := by simp; omega
    rw [e]
    refine Ev.congr (f := fun _ => some false) (fun k => ?_) (Ev.now _)
    rw [if_pos (by omega), if_pos (by omega), if_pos h]
  · have e : (rd when (n : Int) != -1) = false := by simp; omega
    rw [e, Bool.false_or]
    refine Ev.congr (fun k => ?_) (by simpa using ready_loop l hl hd when t n hn hw hb _ 0 rfl (Nat.zero_le _))
    rw [if_pos (by omega), if_pos (by omega), if_neg h]
theorem before_set {when : List Int} {t n : Nat} (hb : before when (t + 1)) : before (when.set n t) (t + 1) := by
  intro j hj
  have hj' : j < when.length := by simpa using hj
  rw [rd_set hj']
  have := hb j hj'
  split <;> omega
theorem ref_l2 (l : List (List Int)) (hl : light l) (hd : dag l) (a : Int) (ha : a ≤ 64) (t : Nat) (r : List Int) (when' : List Int) (busy' : Int) (done : Int) (ht : t < l.length) (hdn : 0 ≤ done ∧ done ≤ 1000)
    (hnext : Ev (fun k => haymowref15_Plan.l1 k l a when' (done + busy') ((t : Int) + 1)) r) :
    ∀ (d n : Nat) (when : List Int) (busy : Int), n + d = l.length → when.length = l.length → before when (t + 1) → 0 ≤ busy → busy ≤ n → busy ≤ a → rowP l a t d n when busy = (when', busy') →
      Ev (fun k => haymowref15_Plan.l2 k l a when (done + busy) t busy n) r
  | 0, n, when, busy, h, hw, hb, h0, h1, h2, hr => by
    obtain rfl : n = l.length := by omega
    simp only [rowP, Prod.mk.injEq] at hr
    obtain ⟨rfl, rfl⟩ := hr
    have hL := hl.1
    refine Ev.step (f := fun k => haymowref15_Plan.j3 k l a when (done + busy) t busy l.length false) (fun k => ?_) (Ev.step (fun k => ?_) hnext)
    · simp only [haymowref15_Plan.l2]
      rw [if_neg (by omega)]
    · simp only [haymowref15_Plan.j3]
      rw [if_neg (by simp), wrap_id (x := (t : Int) + 1) (by omega) (by omega)]
  | d + 1, n, when, busy, h, hw, hb, h0, h1, h2, hr => by
    have hL := hl.1
    have hlt : n < l.length := by omega
    simp only [rowP] at hr
    by_cases hk : busy = a
    · rw [if_pos hk, Prod.mk.injEq] at hr
      obtain ⟨rfl, rfl⟩ := hr
      refine Ev.step (f := fun k => haymowref15_Plan.j3 k l a when (done + busy) t busy n false) (fun k => ?_) (Ev.step (fun k => ?_) hnext)
      · simp only [haymowref15_Plan.l2]
        rw [if_pos (by omega), show decide (busy < a) = false by simp; omega]
      · simp only [haymowref15_Plan.j3]
        rw [if_neg (by simp), wrap_id (x := (t : Int) + 1) (by omega) (by omega)]
    · rw [if_neg hk] at hr
      refine Ev.step (f := fun k => haymowref15_Plan.j3 k l a when (done + busy) t busy n true) (fun k => ?_) ?_
      · simp only [haymowref15_Plan.l2]
        rw [if_pos (by omega), show decide (busy < a) = true by simp; omega]
      · refine Ev.step (fun k => ?_) (Ev.bind (f := fun k b => if b = true then haymowref15_Plan.l2 k l a (when.set n t) (done + (busy + 1)) t (busy + 1) ((n + 1 : Nat) : Int) else haymowref15_Plan.l2 k l a when (done + busy) t busy ((n + 1 : Nat) : Int)) (ready_ev l hl hd when t n hlt hw hb) ?_)
        · simp only [haymowref15_Plan.j3, if_true]
          congr 1
          funext b
          cases b with
          | false =>
            simp only [Bool.false_eq_true, if_false]
            rw [wrap_id (x := (n : Int) + 1) (by omega) (by omega)]
            rfl
          | true =>
          simp only [if_true]
          rw [if_pos (by omega), if_pos (by omega), Int.toNat_natCast, wrap_id (x := (n : Int) + 1) (by omega) (by omega), wrap_id (x := done + busy + 1) (by omega) (by omega), wrap_id (x := busy + 1) (by omega) (by omega), Int.add_assoc done busy 1]
          rfl
        · cases hs : skipB l t when n with
          | true =>
            rw [hs, if_pos rfl] at hr
            simpa using ref_l2 l hl hd a ha t r when' busy' done ht hdn hnext d (n + 1) when busy (by omega) hw hb h0 (by omega) h2 hr
          | false =>
            rw [hs, if_neg (by simp)] at hr
            simpa using ref_l2 l hl hd a ha t r when' busy' done ht hdn hnext d (n + 1) (when.set n t) (busy + 1) (by omega) (by simpa using hw) (before_set hb) (by omega) (by omega) (by omega) hr
theorem ref_l1 (l : List (List Int)) (hl : light l) (hd : dag l) (a : Int) (h1 : 1 ≤ a) (ha : a ≤ 64) : ∀ (d t : Nat), t + d = l.length → Ev (fun k => haymowref15_Plan.l1 k l a (stP l a t) ((l.length : Int) - undone (stP l a t)) t) (planP l a)
  | 0, t, h => by
    obtain rfl : t = l.length := by omega
    have h0 := st_left hd h1 l.length
    refine Ev.step (f := fun _ => some (planP l a)) (fun k => ?_) (Ev.now _)
    simp only [haymowref15_Plan.l1]
    rw [if_neg (by omega)]
    rfl
  | d + 1, t, h => by
    have hL := hl.1
    have hs := stP_S l a t
    by_cases hu : 0 < undone (stP l a t)
    · have hc := rnd_cnt hd h1 t hu
      have hle : undone (stP l a t) ≤ l.length := by rw [← hs.len]; exact List.count_le_length
      have ih := ref_l1 l hl hd a h1 ha d (t + 1) (by omega)
      have hst : stP l a (t + 1) = (rndP l a t (stP l a t)).1 := rfl
      have hbusy : (l.length : Int) - undone (stP l a (t + 1)) = (l.length : Int) - undone (stP l a t) + (rndP l a t (stP l a t)).2 := by omega
      rw [hbusy, hst] at ih
      have h2 := ref_l2 l hl hd a ha t (planP l a) (rndP l a t (stP l a t)).1 (rndP l a t (stP l a t)).2 ((l.length : Int) - undone (stP l a t)) (by omega) (by omega) ih l.length 0 (stP l a t) 0 (by omega) hs.len (fun j hj => by have := hs.ent j hj; omega) (Int.le_refl _) (Int.le_refl _) (by omega) rfl
      rw [Int.add_zero] at h2
      refine Ev.step (fun k => ?_) h2
      simp only [haymowref15_Plan.l1]
      rw [if_pos (by omega)]
      rfl
    · have h0 : undone (stP l a t) = 0 := by omega
      refine Ev.step (f := fun _ => some (planP l a)) (fun k => ?_) (Ev.now _)
      simp only [haymowref15_Plan.l1]
      rw [if_neg (by omega), plan_of hd h1 (by omega) h0]
theorem ref_l0 (l : List (List Int)) (hl : light l) (a : Int) (r : List Int) (hnext : Ev (fun k => haymowref15_Plan.l1 k l a (List.replicate l.length (-1)) 0 0) r) :
    ∀ (d i : Nat), i + d = l.length → Ev (fun k => haymowref15_Plan.l0 k l a (List.replicate i (-1) ++ List.replicate (l.length - i) 0) i) r
  | 0, i, h => by
    obtain rfl : i = l.length := by omega
    refine Ev.step (fun k => ?_) hnext
    simp only [haymowref15_Plan.l0]
    rw [if_neg (by omega)]
    simp
  | d + 1, i, h => by
    have hlt : i < l.length := by omega
    have hL := hl.1
    refine Ev.step (fun k => ?_) (ref_l0 l hl a r hnext d (i + 1) (by omega))
    simp only [haymowref15_Plan.l0, List.length_append, List.length_replicate]
    rw [if_pos (by omega), if_pos (by omega), if_pos (by omega), Int.toNat_natCast, fill_set hlt, wrap_id (x := (i : Int) + 1) (by omega) (by omega)]
    rfl
theorem ref_plan (l : List (List Int)) (hl : light l) (hd : dag l) (a : Int) (h1 : 1 ≤ a) (ha : a ≤ 64) : Ev (fun k => haymowref15_Plan.f k l a) (planP l a) := by
  have hL := hl.1
  have h := ref_l1 l hl hd a h1 ha l.length 0 (by omega)
  have hu0 : undone (stP l a 0) = l.length := by simp [stP, undone, List.count_replicate]
  rw [hu0, Int.sub_self] at h
  have h2 := ref_l0 l hl a (planP l a) h l.length 0 (by omega)
  refine Ev.congr (fun k => ?_) h2
  unfold haymowref15_Plan.f
  rw [if_pos (by omega), if_pos (by rw [Int.toNat_natCast]; omega), Int.toNat_natCast]
  simp
theorem same_loop (w : List Int) (hw : w.length ≤ 1000) : ∀ (d i : Nat), w.length - i = d → i ≤ w.length → Ev (fun k => haymowlaw15_GreedyPlans.l0 k w w i) true
  | 0, i, h, hi => by
    obtain rfl : i = w.length := by omega
    refine Ev.step (f := fun k => (haymowlaw15_awake.f k).bind fun t => some t) (fun k => ?_) (Ev.bind awake_ev (Ev.now _))
    simp only [haymowlaw15_GreedyPlans.l0]
    rw [if_neg (by omega)]
  | d + 1, i, h, hi => by
    refine Ev.step (fun k => ?_) (same_loop w hw d (i + 1) (by omega) (by omega))
    simp only [haymowlaw15_GreedyPlans.l0]
    rw [if_pos (by omega), if_pos (by omega), if_pos (by omega), if_pos trivial, wrap_id (x := (i : Int) + 1) (by omega) (by omega)]
    rfl
theorem greedyPlans_pure (l : List (List Int)) (a : Int) : ∃ k, haymowlaw15_GreedyPlans.f k l a = some true := by
  refine Ev.rounds (r := true) ?_
  obtain ⟨b, h1, h2⟩ := light_ev l
  unfold haymowlaw15_GreedyPlans.f
  refine Ev.bind h1 ?_
  cases b with
  | false => simpa using Ev.now true
  | true =>
    have hf := h2 rfl
    simp only [if_true, plan_f hf, Option.bind_some]
    have no : mayB l a = false → Ev (fun k => haymowlaw15_GreedyPlans.j0 k l a (if mayB l a = true then (planP l a, (0 : Int)) else ([], 1)).1 (if mayB l a = true then (planP l a, (0 : Int)) else ([], 1)).2 true) true := fun hm => by
      rw [hm]
      refine Ev.step (f := fun k => (haymowlaw15_awake.f k).bind fun t => some t) (fun k => ?_) (Ev.bind awake_ev (Ev.now _))
      simp [haymowlaw15_GreedyPlans.j0]
    by_cases c1 : a < 1
    · simp only [if_pos c1]
      exact no (by simp [mayB]; omega)
    · simp only [if_neg c1]
      by_cases c2 : a > 64
      · simp only [if_pos c2]
        exact no (by simp [mayB]; omega)
      · simp only [if_neg c2]
        refine Ev.bind (refR_f l hf.light) ?_
        cases hr : rightB l with
        | false => simpa using no (by simp [mayB, hr])
        | true =>
          have hm : mayB l a = true := by simp [mayB, hr]; omega
          rw [hm]
          have hd := dag_of hr
          have hlen := plan_len l a
          have hL := hf.len
          refine Ev.step (fun k => ?_) (Ev.bind (f := fun k p => if ((planP l a).length : Int) = (p.length : Int) then haymowlaw15_GreedyPlans.j1 k (planP l a) p false else haymowlaw15_GreedyPlans.j1 k (planP l a) p true) (ref_plan l hf.light hd a (by omega) (by omega)) ?_)
          · simp [haymowlaw15_GreedyPlans.j0]
          · simp only [if_true]
            refine Ev.step (fun k => ?_) (same_loop (planP l a) (by omega) _ 0 rfl (Nat.zero_le _))
            simp only [haymowlaw15_GreedyPlans.j1]
            rw [if_neg (by simp)]
            rfl
end Go.Proofs.Ytenmicgohmamaaa.H
