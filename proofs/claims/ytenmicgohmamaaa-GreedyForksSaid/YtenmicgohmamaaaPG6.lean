/- Plain laws: wide, bounds, least. -/
import Derived.Test.YtenmicgohmamaaaPG5
import Derived.Test.YtenmicgohmamaaaPG2
import Derived.Test.YtenmicgohmamaaaH21
import Derived.Test.YtenmicgohmamaaaH23
import Derived.Test.YtenmicgohmamaaaH24
namespace Go.Proofs.Ytenmicgohmamaaa.H
open Go.RowKit Go.Hay Go.Proofs.YtenmicgohmamaaaW.PrintWords Go.Proofs.YtenmicgohmamaaaW.PrintLast Go.Proofs.YtenmicgohmamaaaW.PrintMore
set_option linter.unusedVariables false
set_option linter.unusedSimpArgs false
/-! ### what fits -/
theorem fitsF_iff {l : List (List Int)} {a : Int} {W : List Int} : ∀ {d n : Nat}, fitsF l a W d n = true ↔ ∀ j : Nat, n ≤ j → j < n + d → (0 ≤ rd W j ∧ (∀ x ∈ l.getD j [], rd W x < rd W j) ∧ ((W.take (j + 1)).count (rd W j) : Int) ≤ a)
  | 0, n => by simp [fitsF]; intro j h1 h2; omega
  | d + 1, n => by
    simp only [fitsF]
    have one : ((l.getD n []).any (lateB W n) = true) ↔ ¬ ∀ x ∈ l.getD n [], rd W x < rd W n := by
      rw [List.any_eq_true]
      simp only [lateB, decide_eq_true_eq]
      constructor
      · rintro ⟨x, hx, h⟩ q; have := q x hx; omega
      · intro q
        apply Classical.byContradiction
        intro h
        apply q
        intro x hx
        apply Classical.byContradiction
        intro h2
        exact h ⟨x, hx, by omega⟩
    by_cases h1 : rd W n < 0 ∨ (l.getD n []).any (lateB W n) = true
    · rw [if_pos h1]
      simp only [Bool.false_eq_true, false_iff]
      intro q
      have := q n (Nat.le_refl _) (by omega)
      rcases h1 with h1 | h1
      · omega
      · exact (one.1 h1) this.2.1
    · rw [if_neg h1]
      rw [not_or] at h1
      have h2 : ∀ x ∈ l.getD n [], rd W x < rd W n := Classical.byContradiction fun q => h1.2 (one.2 q)
      by_cases h3 : ((W.take (n + 1)).count (rd W n) : Int) > a
      · rw [if_pos h3]
        simp only [Bool.false_eq_true, false_iff]
        intro q
        have := (q n (Nat.le_refl _) (by omega)).2.2
        omega
      · rw [if_neg h3, fitsF_iff]
        constructor
        · intro q j hj1 hj2
          by_cases e : j = n
          · subst e; exact ⟨by omega, h2, by omega⟩
          · exact q j (by omega) (by omega)
        · intro q j hj1 hj2
          exact q j (by omega) (by omega)
theorem count_at {W : List Int} {a : Int} (ha : 0 ≤ a) (x : Int) : ∀ k, k ≤ W.length → ((W.take k).count x : Int) > a → ∃ j : Nat, j < k ∧ rd W j = x ∧ ((W.take (j + 1)).count x : Int) > a
  | 0, _, h => by simp at h; omega
  | k + 1, hk, h => by
    by_cases e : W[k] = x
    · exact ⟨k, by omega, by rw [rd_get (by omega)]; exact e, h⟩
    · rw [count_take (by omega), if_neg e, Nat.add_zero] at h
      obtain ⟨j, h1, h2⟩ := count_at ha x k (by omega) h
      exact ⟨j, by omega, h2⟩
theorem fit_iff {l : List (List Int)} {a : Int} (ha : 1 ≤ a) {W : List Int} : (W.length = l.length ∧ fitsF l a W l.length 0 = true) ↔ Fit l a W := by
  constructor
  · rintro ⟨h1, h2⟩
    rw [fitsF_iff] at h2
    refine ⟨h1, fun j hj => (h2 j (Nat.zero_le _) (by omega)).1, fun j hj => (h2 j (Nat.zero_le _) (by omega)).2.1, fun s _ => ?_⟩
    apply Classical.byContradiction
    intro h
    have e : W.take W.length = W := List.take_length
    obtain ⟨j, hj, e1, e2⟩ := count_at (a := a) (by omega) s W.length (Nat.le_refl _) (by rw [e]; omega)
    have := (h2 j (Nat.zero_le _) (by omega)).2.2
    rw [e1] at this
    omega
  · intro h
    refine ⟨h.len, fitsF_iff.2 fun j _ hj => ⟨h.pos j (by omega), h.dep j (by omega), ?_⟩⟩
    have h1 := h.few (rd W j) (h.pos j (by omega))
    have h2 : (W.take (j + 1)).count (rd W j) ≤ W.count (rd W j) := (List.take_sublist _ _).count_le _
    omega
theorem fitsP_iff {l : List (List Int)} {a : Int} {W : List Int} : fitsP l a W = true ↔ mayB l a = true ∧ Fit l a W := by
  unfold fitsP
  rw [Bool.and_eq_true, Bool.and_eq_true, decide_eq_true_eq, and_assoc]
  constructor
  · rintro ⟨h1, h2⟩; exact ⟨h1, (fit_iff (may_parts h1).2).1 h2⟩
  · rintro ⟨h1, h2⟩; exact ⟨h1, (fit_iff (may_parts h1).2).2 h2⟩
theorem fits_f {l : List (List Int)} (h : few l) (a : Int) {W : List Int} (hw : wfs W = true) : greedy_Fits.f l a W = some (fitsP l a W) := by
  unfold greedy_Fits.f
  rw [h.lightB, hw]; rfl
theorem plan_bound {g : List (List Int)} (hd : dag g) {k : Int} (hk : 1 ≤ k) : ∀ x ∈ planP g k, 0 ≤ x ∧ x < g.length := by
  intro x hx
  obtain ⟨j, hj, rfl⟩ := List.getElem_of_mem hx
  have h1 := (stP_S g k g.length).ent j hj
  have h2 := (plan_greedy hd hk).pos j (by rw [plan_len] at hj; exact hj)
  rw [rd_get hj] at h2
  have e : rd (stP g k g.length) (j : Int) = (planP g k)[j] := rd_get hj
  rw [e] at h1
  omega
theorem plan_time_ev {g : List (List Int)} (hf : few g) (hd : dag g) {k : Int} (hk : 1 ≤ k) : Ev (fun n => greedy_Time.f n (planP g k)) (timeP (planP g k)) := by
  have hL := hf.len
  refine time_ev _ (by rw [plan_len]; omega) (fun x hx => ?_)
  have := plan_bound hd hk x hx
  omega
/-! ### wide -/
theorem wide_loop (l : List (List Int)) (hf : few l) (W dl : List Int) (hW : W.length = l.length) (hdl : dl.length = l.length) (hw : ∀ n : Nat, n < l.length → rd dl n = rd W n + 1) (hb : ∀ n : Nat, n < l.length → 0 ≤ rd W n ∧ rd W n < 1000) (r : Bool)
    (hend : Ev (fun k => (greedy_Time.f k W).bind fun t => (graph_Span.f k l).bind fun s => if t = s then (haymowlaw15_awake.f k).bind fun t => some t else some false) r) :
    ∀ (d i : Nat), l.length - i = d → i ≤ l.length → Ev (fun k => haymowlaw15_GreedyWide.l0 k W dl i l) r
  | 0, i, h, hi => by
    obtain rfl : i = l.length := by omega
    refine Ev.step (fun k => ?_) hend
    simp only [haymowlaw15_GreedyWide.l0]
    rw [if_neg (by omega)]
  | d + 1, i, h, hi => by
    have hlt : i < l.length := by omega
    have hL := hf.len
    have h1 := hw i hlt
    have h2 := hb i hlt
    refine Ev.step (fun k => ?_) (wide_loop l hf W dl hW hdl hw hb r hend d (i + 1) (by omega) (by omega))
    simp only [haymowlaw15_GreedyWide.l0]
    rw [if_pos (by omega), if_pos (by omega), if_pos (by omega), wrap_id (x := rd dl (i : Int) - 1) (by omega) (by omega), if_pos (by omega), wrap_id (x := (i : Int) + 1) (by omega) (by omega)]
    rfl
theorem greedyWide_pure (l : List (List Int)) : ∃ k, haymowlaw15_GreedyWide.f k l = some true := by
  refine Ev.rounds (r := true) ?_
  obtain ⟨b, h1, h2⟩ := light_ev l
  have out : Ev (fun k => haymowlaw15_GreedyWide.j0 k l true) true := Ev.step (f := fun _ => some true) (fun k => by simp [haymowlaw15_GreedyWide.j0]) (Ev.now _)
  unfold haymowlaw15_GreedyWide.f
  refine Ev.bind h1 ?_
  cases b with
  | false => simpa using out
  | true =>
    have hf := h2 rfl
    have hL := hf.len
    simp only [if_true]
    by_cases h64 : (l.length : Int) > 64
    · simpa [h64] using out
    · simp only [show decide ((l.length : Int) > 64) = false by simp; omega]
      cases hm : mayB l 64 with
      | false =>
        refine Ev.step (f := fun k => (haymowlaw15_awake.f k).bind fun t => some t) (fun k => ?_) (Ev.bind awake_ev (Ev.now _))
        simp [haymowlaw15_GreedyWide.j0, plan_f hf, hm]
      | true =>
        have hr := (may_parts hm).1
        have hd := dag_of hr
        have hg := plan_greedy hd (k := 64) (by omega)
        obtain ⟨dl, hdl, hs⟩ := depths_f l hf.light hr
        have hw := wide hd (k := 64) (by omega) hg hs
        have hsame : timeP (planP l 64) = topP 0 dl := by
          have a1 := span_time hd hg.toFit hs
          have a2 := span_ge hs
          rcases time_at (planP l 64) with e | ⟨j, hj, e⟩
          · omega
          · have hj' : j < l.length := by rw [plan_len] at hj; exact hj
            have := hw j hj'
            have := a2.2 j hj'
            omega
        refine Ev.step (fun k => ?_) (Ev.bind (f := fun k p => if (p.length : Int) = ((planP l 64).length : Int) then haymowlaw15_GreedyWide.l0 k (planP l 64) p 0 l else some false) hdl ?_)
        · simp [haymowlaw15_GreedyWide.j0, plan_f hf, hm]
        · simp only [plan_len, hs.len, if_true]
          refine wide_loop l hf (planP l 64) dl (plan_len l 64) hs.len hw (fun n hn => ?_) true ?_ _ 0 rfl (Nat.zero_le _)
          · have hn' : n < (planP l 64).length := by rw [plan_len]; exact hn
            have := plan_bound hd (k := 64) (by omega) _ (List.getElem_mem hn')
            rw [rd_get hn']; omega
          · refine Ev.bind (plan_time_ev hf hd (by omega)) (Ev.bind (span_f l hf.light hdl hs) ?_)
            simp only [if_pos hsame]
            exact Ev.bind awake_ev (Ev.now _)
end Go.Proofs.Ytenmicgohmamaaa.H
