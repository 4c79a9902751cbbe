/- Plain laws: one worker; the reference's plan. -/
import Derived.Test.YtenmicgohmamaaaPG1
import Derived.Test.YtenmicgohmamaaaH8
import Derived.Test.YtenmicgohmamaaaH11
import Derived.Test.YtenmicgohmamaaaH12
import Derived.Test.YtenmicgohmamaaaH13
import Derived.Test.YtenmicgohmamaaaH15
namespace Go.Proofs.Ytenmicgohmamaaa.H
open Go.RowKit Go.Hay Go.Proofs.YtenmicgohmamaaaW.PrintWords Go.Proofs.YtenmicgohmamaaaW.PrintLast Go.Proofs.YtenmicgohmamaaaW.PrintMore
set_option linter.unusedVariables false
set_option linter.unusedSimpArgs false
theorem plan_f {l : List (List Int)} (h : few l) (a : Int) : greedy_Plan.f l a = some (if mayB l a then (planP l a, 0) else ([], 1)) := by
  unfold greedy_Plan.f
  rw [if_pos h.lightB]
  split <;> rfl
theorem plan_len (l : List (List Int)) (a : Int) : (planP l a).length = l.length := (stP_S l a _).len

/-! ### one worker -/
theorem row_one {g : List (List Int)} (hd : dag g) {t : Nat} {when : List Int} (ht : t < g.length) (hl : when.length = g.length) (hw : ∀ j : Nat, j < g.length → rd when j = if j < t then (j : Int) else -1) :
    ∀ (d n : Nat), n + d = g.length → n ≤ t → rowP g 1 t d n when 0 = (when.set t t, 1)
  | 0, n, h, hn => by omega
  | d + 1, n, h, hn => by
    simp only [rowP]
    rw [if_neg (by omega)]
    by_cases e : n = t
    · subst e
      have hsk : skipB g n when n = false := by
        simp only [skipB, Bool.or_eq_false_iff]
        refine ⟨by rw [hw n ht, if_neg (Nat.lt_irrefl _)]; rfl, ?_⟩
        rw [List.any_eq_false]
        intro x hx
        rw [show g.getD n [] = g[n] by simp [ht]] at hx
        have hx2 := hd n ht x hx
        obtain ⟨m, rfl⟩ := Int.eq_ofNat_of_zero_le hx2.1
        have := hw m (by omega)
        rw [if_pos (by omega)] at this
        simp only [waitB, Int.ofNat_eq_natCast, this]
        simp; omega
      rw [hsk]
      simp only [Bool.false_eq_true, if_false]
      cases d with
      | zero => rfl
      | succ d => simp only [rowP]; rw [if_pos (by omega)]; rfl
    · have hsk : skipB g t when n = true := by
        simp only [skipB, hw n (by omega), if_pos (show n < t by omega)]
        simp <;> omega
      rw [hsk]
      simpa using row_one hd ht hl hw d (n + 1) (by omega) (by omega)
theorem st_one {g : List (List Int)} (hd : dag g) : ∀ t, t ≤ g.length → ∀ j : Nat, j < g.length → rd (stP g 1 t) j = if j < t then (j : Int) else -1
  | 0, _, j, hj => by
    rw [if_neg (Nat.not_lt_zero _)]
    show rd (List.replicate g.length (-1)) j = _
    rw [rd_get (by simpa using hj)]; simp
  | t + 1, ht, j, hj => by
    have ih := st_one hd t (by omega)
    have hs := stP_S g 1 t
    have hr := row_one hd (t := t) (by omega) hs.len ih g.length 0 (by omega) (Nat.zero_le _)
    show rd (rndP g 1 t (stP g 1 t)).1 j = _
    unfold rndP
    rw [hr]
    show rd ((stP g 1 t).set t t) j = _
    rw [rd_set (by rw [hs.len]; exact hj)]
    by_cases e : t = j
    · subst e; rw [if_pos rfl, if_pos (by omega)]
    · rw [if_neg e, ih j hj]
      by_cases h2 : j < t
      · rw [if_pos h2, if_pos (by omega)]
      · rw [if_neg h2, if_neg (by omega)]
theorem plan_one {g : List (List Int)} (hd : dag g) {j : Nat} (hj : j < g.length) : rd (planP g 1) j = j := by
  unfold planP
  rw [st_one hd _ (Nat.le_refl _) j hj, if_pos hj]
theorem one_loop (l : List (List Int)) (hf : few l) (hd : dag l) : ∀ (d i : Nat), l.length - i = d → i ≤ l.length → Ev (fun k => haymowlaw15_GreedyOne.l0 k l (planP l 1) i) true
  | 0, i, h, hi => by
    obtain rfl : i = l.length := by omega
    refine Ev.step (f := fun k => (haymowlaw15_awake.f k).bind fun t => some t) (fun k => ?_) (Ev.bind awake_ev (Ev.now _))
    simp only [haymowlaw15_GreedyOne.l0, plan_len]
    rw [if_neg (by omega)]
    simp
  | d + 1, i, h, hi => by
    have hlt : i < l.length := by omega
    have hlen := hf.len
    refine Ev.step (fun k => ?_) (one_loop l hf hd d (i + 1) (by omega) (by omega))
    simp only [haymowlaw15_GreedyOne.l0, plan_len, plan_one hd hlt]
    rw [if_pos (by omega), if_pos (by omega), if_pos trivial, wrap_id (x := (i : Int) + 1) (by omega) (by omega)]
    rfl
theorem greedyOne_pure (l : List (List Int)) : ∃ k, haymowlaw15_GreedyOne.f k l = some true := by
  refine Ev.rounds (r := true) ?_
  obtain ⟨b, h1, h2⟩ := light_ev l
  unfold haymowlaw15_GreedyOne.f
  refine Ev.bind h1 ?_
  cases b with
  | false => simpa using Ev.now true
  | true =>
    have hf := h2 rfl
    simp only [if_true, plan_f hf, Option.bind_some]
    cases hm : mayB l 1 with
    | true => simpa [hm] using one_loop l hf (dag_of (may_parts hm).1) _ 0 rfl (Nat.zero_le _)
    | false =>
      refine Ev.congr (f := fun k => (haymowlaw15_awake.f k).bind fun t => some t) (fun k => ?_) (Ev.bind awake_ev (Ev.now _))
      simp

/-! ### the reference -/
theorem ref_row (l : List (List Int)) (hl : light l) (i : Nat) (hi : i < l.length) (r : Bool) (hno : risesB i none l[i] = false → r = false) (hyes : risesB i none l[i] = true → Ev (fun k => haymowref14_Right.l0 k l ((i : Int) + 1)) r) :
    ∀ (d j : Nat) (p : Option Int), l[i].length - j = d → j ≤ l[i].length → (p = if j = 0 then none else some (rd l[i] ((j : Int) - 1))) → risesB i p (l[i].drop j) = risesB i none l[i] → Ev (fun k => haymowref14_Right.l1 k l i j) r
  | 0, j, p, hd, hj, hp, he => by
    obtain rfl : j = l[i].length := by omega
    rw [List.drop_length] at he
    have hL := hl.1
    have := hyes (by rw [← he]; cases p <;> rfl)
    refine Ev.step (fun k => ?_) this
    simp only [haymowref14_Right.l1, rdL_get hi]
    rw [if_pos (by omega), if_pos (by omega), if_neg (by omega), wrap_id (x := (i : Int) + 1) (by omega) (by omega)]
  | d + 1, j, p, hd, hj, hp, he => by
    have hlt : j < l[i].length := by omega
    have hR := hl.2 _ (List.getElem_mem hi)
    rw [drop_cons hlt] at he
    simp only [risesB] at he
    have ih := ref_row l hl i hi r hno hyes d (j + 1) (some l[i][j]) (by omega) (by omega) (by rw [if_neg (by omega)]; rw [show ((j + 1 : Nat) : Int) - 1 = (j : Int) by omega, rd_get hlt])
    have no : (risesB i none l[i] = false) → (∀ k, haymowref14_Right.l1 (k + 1) l i j = some false) → Ev (fun k => haymowref14_Right.l1 k l i j) r := fun hr h => by
      rw [hno hr]; exact Ev.step (f := fun _ => some false) h (Ev.now _)
    by_cases h0 : 0 ≤ l[i][j]
    · by_cases h1 : l[i][j] < i
      · by_cases hz : j = 0
        · subst hz
          simp only [if_true] at hp
          subst hp
          refine Ev.step (fun k => ?_) (ih (by simpa [h0, h1] using he))
          simp only [haymowref14_Right.l1, rdL_get hi, rd_get hlt]
          rw [if_pos (by omega), if_pos (by omega), if_pos (by omega), if_pos (by omega), if_neg (by omega), if_neg (by omega), if_neg (by omega), wrap_id (by omega) (by omega)]
          rfl
        · rw [if_neg hz] at hp
          subst hp
          have hw : wrap64 ((j : Int) - 1) = (j : Int) - 1 := wrap_id (by omega) (by omega)
          by_cases h2 : rd l[i] ((j : Int) - 1) < l[i][j]
          · refine Ev.step (fun k => ?_) (ih (by simpa [h0, h1, h2] using he))
            simp only [haymowref14_Right.l1, rdL_get hi, rd_get hlt, hw]
            rw [if_pos (by omega), if_pos (by omega), if_pos (by omega), if_pos (by omega), if_neg (by omega), if_neg (by omega), if_pos (by omega), if_pos (by omega), if_pos (by omega), if_neg (by omega), wrap_id (by omega) (by omega)]
            rfl
          · refine no (by rw [← he]; simp [h2]) (fun k => ?_)
            simp only [haymowref14_Right.l1, rdL_get hi, rd_get hlt, hw]
            rw [if_pos (by omega), if_pos (by omega), if_pos (by omega), if_pos (by omega), if_neg (by omega), if_neg (by omega), if_pos (by omega), if_pos (by omega), if_pos (by omega), if_pos (by omega)]
      · refine no (by rw [← he]; simp [h1]) (fun k => ?_)
        simp only [haymowref14_Right.l1, rdL_get hi, rd_get hlt]
        rw [if_pos (by omega), if_pos (by omega), if_pos (by omega), if_pos (by omega), if_neg (by omega), if_pos (by omega)]
    · refine no (by rw [← he]; simp [h0]) (fun k => ?_)
      simp only [haymowref14_Right.l1, rdL_get hi, rd_get hlt]
      rw [if_pos (by omega), if_pos (by omega), if_pos (by omega), if_pos (by omega), if_pos (by omega)]
theorem refR_loop (l : List (List Int)) (hl : light l) : ∀ (d i : Nat), l.length - i = d → i ≤ l.length → Ev (fun k => haymowref14_Right.l0 k l i) (rightF l d i)
  | 0, i, hd, hi => by
    obtain rfl : i = l.length := by omega
    refine Ev.step (f := fun _ => some true) (fun k => ?_) (Ev.now _)
    simp only [haymowref14_Right.l0]
    rw [if_neg (by omega)]
  | d + 1, i, hd, hi => by
    have hlt : i < l.length := by omega
    have hg : l.getD i [] = l[i] := by simp [hlt]
    simp only [rightF, hg]
    refine Ev.step (fun k => ?_) (ref_row l hl i hlt (risesB i none l[i] && rightF l d (i + 1)) (fun e => by simp [e]) (fun e => by simpa [e] using refR_loop l hl d (i + 1) (by omega) (by omega)) _ 0 none rfl (Nat.zero_le _) rfl rfl)
    simp only [haymowref14_Right.l0]
    rw [if_pos (by omega)]
    rfl
theorem refR_f (l : List (List Int)) (hl : light l) : Ev (fun k => haymowref14_Right.f k l) (rightB l) := refR_loop l hl _ 0 rfl (Nat.zero_le _)
end Go.Proofs.Ytenmicgohmamaaa.H
