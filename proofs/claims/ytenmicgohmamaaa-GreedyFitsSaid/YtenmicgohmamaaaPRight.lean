/- What graph.Right and greedy.may tell, in plain words. -/
import Derived.Test.YtenmicgohmamaaaH4
import Derived.Test.YtenmicgohmamaaaBase
namespace Go.Proofs.Ytenmicgohmamaaa.H
open Go.RowKit Go.Hay Go.Proofs.YtenmicgohmamaaaW.PrintWords Go.Proofs.YtenmicgohmamaaaW.PrintLast Go.Proofs.YtenmicgohmamaaaW.PrintMore
set_option linter.unusedVariables false
set_option linter.unusedSimpArgs false
theorem wrap_id {x : Int} (h0 : -9223372036854775808 ≤ x) (h1 : x < 9223372036854775808) : wrap64 x = x := by unfold wrap64; omega
theorem rd_get {b : List Int} {i : Nat} (h : i < b.length) : rd b (i : Int) = b[i] := by simp [rd, h]
theorem rdL_get {b : List (List Int)} {i : Nat} (h : i < b.length) : rd_L1 b (i : Int) = b[i] := by simp [rd_L1, h]
theorem drop_cons {α : Type} {l : List α} {i : Nat} (h : i < l.length) : l.drop i = l[i] :: l.drop (i + 1) := List.drop_eq_getElem_cons h
def risesB (b : Int) : Option Int → List Int → Bool
  | _, [] => true
  | p, x :: t => decide (0 ≤ x) && decide (x < b) && (p.all fun q => decide (q < x)) && risesB b (some x) t
def rightF (l : List (List Int)) : Nat → Nat → Bool
  | 0, _ => true
  | d + 1, i => risesB i none (l.getD i []) && rightF l d (i + 1)
def rightB (l : List (List Int)) : Bool := rightF l l.length 0
def mayB (l : List (List Int)) (a : Int) : Bool := decide (1 ≤ a) && decide (a ≤ 64) && rightB l
def light (l : List (List Int)) : Prop := l.length ≤ 1000 ∧ ∀ r ∈ l, r.length ≤ 1000
def lightB (l : List (List Int)) : Bool := decide (l.length ≤ 1000) && l.all fun r => decide (r.length ≤ 1000)
theorem lightB_iff {l : List (List Int)} : lightB l = true ↔ light l := by simp [lightB, light]
theorem rises_ev (l : List Int) (b : Int) (hl : l.length ≤ 1000) : ∀ (d i : Nat) (p : Option Int), l.length - i = d → i ≤ l.length → (p = if i = 0 then none else some (rd l ((i : Int) - 1))) → Ev (fun k => graph_rises.l0 k l b l (l.length : Int) i) (risesB b p (l.drop i))
  | 0, i, p, hd, hi, hp => by
    obtain rfl : i = l.length := by omega
    refine Ev.step (f := fun _ => some true) (fun k => ?_) (by simpa [risesB] using Ev.now true)
    simp only [graph_rises.l0]
    rw [if_neg (by omega)]
  | d + 1, i, p, hd, hi, hp => by
    have hlt : i < l.length := by omega
    have ih := rises_ev l b hl d (i + 1) (some l[i]) (by omega) (by omega) (by rw [if_neg (by omega)]; rw [show ((i + 1 : Nat) : Int) - 1 = (i : Int) by omega, rd_get hlt])
    rw [drop_cons hlt]
    simp only [risesB]
    have no : ∀ r : Bool, r = false → (∀ k, graph_rises.l0 (k + 1) l b l (l.length : Int) i = some false) → Ev (fun k => graph_rises.l0 k l b l (l.length : Int) i) r := fun r hr h => by
      subst hr; exact Ev.step (f := fun _ => some false) h (Ev.now _)
    by_cases h0 : 0 ≤ l[i]
    · by_cases h1 : l[i] < b
      · by_cases hz : i = 0
        · subst hz
          simp only [if_true] at hp
          subst hp
          refine Ev.step (fun k => ?_) (by simpa [h0, h1] using ih)
          simp only [graph_rises.l0, rd_get hlt]
          rw [if_pos (by omega), if_pos (by omega), if_pos (by omega), if_neg (by omega), if_neg (by omega), if_neg (by omega), wrap_id (by omega) (by omega)]
          rfl
        · rw [if_neg hz] at hp
          subst hp
          have hw : wrap64 ((i : Int) - 1) = (i : Int) - 1 := wrap_id (by omega) (by omega)
          by_cases h2 : rd l ((i : Int) - 1) < l[i]
          · refine Ev.step (fun k => ?_) (by simpa [h0, h1, h2] using ih)
            simp only [graph_rises.l0, rd_get hlt, hw]
            rw [if_pos (by omega), if_pos (by omega), if_pos (by omega), if_neg (by omega), if_neg (by omega), if_pos (by omega), if_pos (by omega), if_pos (by omega), if_neg (by omega), wrap_id (by omega) (by omega)]
          · refine no _ (by simp [h2]) (fun k => ?_)
            simp only [graph_rises.l0, rd_get hlt, hw]
            rw [if_pos (by omega), if_pos (by omega), if_pos (by omega), if_neg (by omega), if_neg (by omega), if_pos (by omega), if_pos (by omega), if_pos (by omega), if_pos (by omega)]
      · refine no _ (by simp [h1]) (fun k => ?_)
        simp only [graph_rises.l0, rd_get hlt]
        rw [if_pos (by omega), if_pos (by omega), if_pos (by omega), if_neg (by omega), if_pos (by omega)]
    · refine no _ (by simp [h0]) (fun k => ?_)
      simp only [graph_rises.l0, rd_get hlt]
      rw [if_pos (by omega), if_pos (by omega), if_pos (by omega), if_pos (by omega)]
theorem right_ev (l : List (List Int)) (hl : light l) : ∀ (d i : Nat), l.length - i = d → i ≤ l.length → Ev (fun k => graph_Right.l0 k l (l.length : Int) i) (rightF l d i)
  | 0, i, hd, hi => by
    obtain rfl : i = l.length := by omega
    refine Ev.step (f := fun _ => some true) (fun k => ?_) (Ev.now _)
    simp only [graph_Right.l0]
    rw [if_neg (by omega)]
  | d + 1, i, hd, hi => by
    have hlt : i < l.length := by omega
    have hL := hl.1
    have h1 := rises_ev l[i] i (hl.2 _ (List.getElem_mem hlt)) _ 0 none rfl (Nat.zero_le _) rfl
    have hg : l.getD i [] = l[i] := by simp [hlt]
    simp only [rightF, hg]
    rw [List.drop_zero] at h1
    refine Ev.step (fun k => ?_) (Ev.bind (g := fun k => graph_rises.f k l[i] i) (f := fun k t => if t = true then graph_Right.l0 k l (l.length : Int) ((i + 1 : Nat) : Int) else some false) (r := risesB i none l[i] && rightF l d (i + 1)) h1 ?_)
    · simp only [graph_Right.l0, rdL_get hlt]
      rw [if_pos (by omega), if_pos (by omega), if_pos (by omega), wrap_id (x := (i : Int) + 1) (by omega) (by omega)]
      rfl
    · cases risesB i none l[i] with
      | true => simpa using right_ev l hl d (i + 1) (by omega) (by omega)
      | false => simpa using Ev.now false
theorem right_f (l : List (List Int)) (hl : light l) : Ev (fun k => graph_Right.f k l) (rightB l) := right_ev l hl _ 0 rfl (Nat.zero_le _)
theorem may_f (l : List (List Int)) (a : Int) (hl : light l) : Ev (fun k => greedy_may.f k l a) (mayB l a) := by
  unfold greedy_may.f mayB
  by_cases h1 : a ≥ 1
  · by_cases h2 : a ≤ 64
    · simp only [if_pos h1, if_pos h2]
      refine Ev.bind (right_f l hl) ?_
      have : (decide (1 ≤ a) && decide (a ≤ 64) && rightB l) = rightB l := by simp [show 1 ≤ a by omega, h2]
      rw [this]
      exact Ev.now _
    · simp only [if_pos h1, if_neg h2]
      have : (decide (1 ≤ a) && decide (a ≤ 64) && rightB l) = false := by simp [h2]
      rw [this]
      exact Ev.now _
  · simp only [if_neg h1]
    have : (decide (1 ≤ a) && decide (a ≤ 64) && rightB l) = false := by simp [show ¬ 1 ≤ a by omega]
    rw [this]
    exact Ev.now _
theorem rises_mem {b : Int} : ∀ {p : Option Int} {l : List Int}, risesB b p l = true → ∀ x ∈ l, 0 ≤ x ∧ x < b
  | _, [], _, x, hx => by cases hx
  | p, y :: t, h, x, hx => by
    simp only [risesB, Bool.and_eq_true, decide_eq_true_eq] at h
    rcases List.mem_cons.1 hx with rfl | hx
    · exact h.1.1
    · exact rises_mem h.2 x hx
theorem right_at {l : List (List Int)} : ∀ {d i : Nat}, rightF l d i = true → ∀ n, i ≤ n → n < i + d → risesB n none (l.getD n []) = true
  | 0, i, h, n, h0, h1 => by omega
  | d + 1, i, h, n, h0, h1 => by
    simp only [rightF, Bool.and_eq_true] at h
    by_cases e : n = i
    · subst e; exact h.1
    · exact right_at h.2 n (by omega) (by omega)
/-- A graph: each step waits for elder ones alone. -/
def dag (l : List (List Int)) : Prop := ∀ n (h : n < l.length), ∀ x ∈ l[n], 0 ≤ x ∧ x < (n : Int)
theorem dag_of {l : List (List Int)} (h : rightB l = true) : dag l := by
  intro n hn x hx
  have := right_at h n (Nat.zero_le _) (by omega)
  rw [show l.getD n [] = l[n] by simp [hn]] at this
  exact rises_mem this x hx
end Go.Proofs.Ytenmicgohmamaaa.H
