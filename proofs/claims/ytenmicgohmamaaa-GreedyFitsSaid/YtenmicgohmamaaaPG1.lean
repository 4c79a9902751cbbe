/- Plain laws of the greedy layer: few steps, time, the example. -/
import Derived.Test.YtenmicgohmamaaaPlan
import Derived.Test.YtenmicgohmamaaaH1
import Derived.Test.YtenmicgohmamaaaH9
import Derived.Test.YtenmicgohmamaaaH10
namespace Go.Proofs.Ytenmicgohmamaaa.H
open Go.RowKit Go.Hay Go.Proofs.YtenmicgohmamaaaW.PrintWords Go.Proofs.YtenmicgohmamaaaW.PrintLast Go.Proofs.YtenmicgohmamaaaW.PrintMore
set_option linter.unusedVariables false
set_option linter.unusedSimpArgs false
theorem light_loop (l : List (List Int)) (hl : l.length ≤ 200) : ∀ (d i : Nat), l.length - i = d → i ≤ l.length → ∃ b, Ev (fun k => haymowlaw15_light.l0 k l i) b ∧ (b = true → ∀ r ∈ l.drop i, r.length ≤ 50)
  | 0, i, hd, hi => by
    obtain rfl : i = l.length := by omega
    refine ⟨true, Ev.step (f := fun _ => some true) (fun k => ?_) (Ev.now _), by simp⟩
    simp only [haymowlaw15_light.l0]
    rw [if_neg (by omega)]
  | d + 1, i, hd, hi => by
    have hlt : i < l.length := by omega
    by_cases hb : l[i].length > 50
    · refine ⟨false, Ev.step (f := fun _ => some false) (fun k => ?_) (Ev.now _), by simp⟩
      simp only [haymowlaw15_light.l0, rdL_get hlt]
      rw [if_pos (by omega), if_pos (by omega), if_pos (by omega)]
    · obtain ⟨b, h1, h2⟩ := light_loop l hl d (i + 1) (by omega) (by omega)
      refine ⟨b, Ev.step (fun k => ?_) h1, fun e r hr => ?_⟩
      · simp only [haymowlaw15_light.l0, rdL_get hlt]
        rw [if_pos (by omega), if_pos (by omega), if_neg (by omega), wrap_id (x := (i : Int) + 1) (by omega) (by omega)]
        rfl
      · rw [drop_cons hlt] at hr
        rcases List.mem_cons.1 hr with rfl | hr
        · omega
        · exact h2 e r hr
structure few (l : List (List Int)) : Prop where
  len : l.length ≤ 200
  row : ∀ r ∈ l, r.length ≤ 50
theorem few.light {l : List (List Int)} (h : few l) : light l := ⟨by have := h.len; omega, fun r hr => by have := h.row r hr; omega⟩
theorem few.lightB {l : List (List Int)} (h : few l) : lightB l = true := lightB_iff.2 h.light
theorem light_ev (l : List (List Int)) : ∃ b, Ev (fun k => haymowlaw15_light.f k l) b ∧ (b = true → few l) := by
  by_cases hl : (l.length : Int) > 200
  · exact ⟨false, Ev.congr (fun k => by unfold haymowlaw15_light.f; rw [if_pos hl]) (Ev.now _), by simp⟩
  · obtain ⟨b, h1, h2⟩ := light_loop l (by omega) l.length 0 (by omega) (by omega)
    refine ⟨b, Ev.congr (fun k => by unfold haymowlaw15_light.f; rw [if_neg hl]; rfl) h1, fun e => ⟨by omega, fun r hr => h2 e r (by simpa using hr)⟩⟩
def topP (a : Int) : List Int → Int
  | [] => a
  | x :: t => topP (mx a x) t
theorem topP_le {l : List Int} : ∀ {a : Int}, a ≤ topP a l ∧ ∀ x ∈ l, x ≤ topP a l := by
  induction l with
  | nil => intro a; exact ⟨Int.le_refl _, fun x hx => by cases hx⟩
  | cons y t ih =>
    intro a
    have h := ih (a := mx a y)
    have h1 : a ≤ mx a y ∧ y ≤ mx a y := by unfold mx; split <;> omega
    refine ⟨by have := h.1; simp only [topP]; omega, fun x hx => ?_⟩
    rcases List.mem_cons.1 hx with rfl | hx
    · have := h.1; simp only [topP]; omega
    · exact h.2 x hx
theorem topP_mem {l : List Int} : ∀ {a : Int}, topP a l = a ∨ topP a l ∈ l := by
  induction l with
  | nil => intro a; exact .inl rfl
  | cons y t ih =>
    intro a
    simp only [topP]
    rcases ih (a := mx a y) with e | e
    · rw [e]
      unfold mx
      split
      · exact .inr (by simp)
      · exact .inl rfl
    · exact .inr (List.mem_cons_of_mem _ e)
def timeP (when : List Int) : Int := topP (-1) when + 1
theorem time_loop (l : List Int) (hl : l.length ≤ 1000) : ∀ (d i : Nat) (a : Int), l.length - i = d → i ≤ l.length → Ev (fun k => greedy_Time.l0 k a l (l.length : Int) i) (wrap64 (topP a (l.drop i) + 1))
  | 0, i, a, hd, hi => by
    obtain rfl : i = l.length := by omega
    rw [List.drop_length]
    refine Ev.step (f := fun _ => some (wrap64 (a + 1))) (fun k => ?_) (Ev.now _)
    simp only [greedy_Time.l0]
    rw [if_neg (by omega)]
  | d + 1, i, a, hd, hi => by
    have hlt : i < l.length := by omega
    rw [drop_cons hlt]
    refine Ev.step (fun k => ?_) (time_loop l hl d (i + 1) (mx a l[i]) (by omega) (by omega))
    simp only [greedy_Time.l0, rd_get hlt]
    rw [if_pos (by omega), if_pos (by omega), if_pos (by omega), wrap_id (x := (i : Int) + 1) (by omega) (by omega)]
    rfl
theorem time_ev (l : List Int) (hl : l.length ≤ 1000) (hb : ∀ x ∈ l, x < 9223372036854775807) : Ev (fun k => greedy_Time.f k l) (timeP l) := by
  have h := time_loop l hl l.length 0 (-1) (by omega) (by omega)
  have e : wrap64 (topP (-1) (l.drop 0) + 1) = timeP l := by
    rw [List.drop_zero, timeP]
    have h1 := (topP_le (l := l) (a := -1)).1
    have h2 : topP (-1) l < 9223372036854775807 := by
      rcases topP_mem (l := l) (a := -1) with e | e
      · rw [e]; omega
      · exact hb _ e
    exact wrap_id (by omega) (by omega)
  rw [e] at h
  exact h
theorem awake_ev : Ev (fun k => haymowlaw15_awake.f k) true := by
  unfold haymowlaw15_awake.f
  have h : greedy_Plan.f [[], []] 2 = some ([0, 0], 0) := by decide +kernel
  rw [h]
  simp only [Option.bind_some]
  have ht : (timeP [0, 0] == 1) = true := by decide +kernel
  refine Ev.congr (f := fun k => (greedy_Time.f k [0, 0]).bind fun t128 => some (t128 == 1)) (fun k => ?_) (Ev.bind (time_ev [0, 0] (by simp) (by simp)) ?_)
  · simp [rd]
  · rw [ht]; exact Ev.now _
end Go.Proofs.Ytenmicgohmamaaa.H
